/- LexPlaces walked. -/
import Derived.Test.YtpgngegdflbahaaDoorXM
import Derived.Test.YtpgngegdflbahaaDoorPP
set_option linter.unusedVariables false
namespace Go.Proofs.YtpgngegdflbahaaDoor
open Go.RowKit

theorem tok_cells {w : World} {base n : Nat} {g c : Nat} {l : List TokD} (h : w.ownsRow base 32 4 (.slice (some ⟨g, 0, none⟩) n c) n (tokCells l)) {i : Nat} (hi : i < l.length) :
    w.cell? ⟨g, i * 4, none⟩ = some (.int .i64 l[i].kind) ∧ w.cell? ⟨g, i * 4 + 1, none⟩ = some (sv l[i].text) ∧ w.cell? ⟨g, i * 4 + 2, none⟩ = some (.int .i64 (l[i].line : Nat)) ∧ w.cell? ⟨g, i * 4 + 3, none⟩ = some (.int .i64 (l[i].col : Nat)) := by
  have hc := h.cells (g := g) rfl
  have key : ∀ (l : List TokD) (i : Nat) (hi : i < l.length), (tokCells l)[i * 4]? = some (.int .i64 l[i].kind) ∧ (tokCells l)[i * 4 + 1]? = some (sv l[i].text) ∧ (tokCells l)[i * 4 + 2]? = some (.int .i64 (l[i].line : Nat)) ∧ (tokCells l)[i * 4 + 3]? = some (.int .i64 (l[i].col : Nat)) := by
    intro l
    induction l with
    | nil => intro i hi; simp at hi
    | cons t l ih =>
      intro i hi
      have e : tokCells (t :: l) = tokV t ++ tokCells l := rfl
      have hl : (tokV t).length = 4 := rfl
      rw [e]
      rcases i with _ | i
      · exact ⟨rfl, rfl, rfl, rfl⟩
      · obtain ⟨a, b, c, d⟩ := ih i (by simpa using hi)
        rw [show (i + 1) * 4 = i * 4 + 4 from by omega]
        refine ⟨?_, ?_, ?_, ?_⟩
        · rw [List.getElem?_append_right (by omega), hl]; simpa using a
        · rw [List.getElem?_append_right (by omega), hl, show i * 4 + 4 + 1 - 4 = i * 4 + 1 from by omega]; simpa using b
        · rw [List.getElem?_append_right (by omega), hl, show i * 4 + 4 + 2 - 4 = i * 4 + 2 from by omega]; simpa using c
        · rw [List.getElem?_append_right (by omega), hl, show i * 4 + 4 + 3 - 4 = i * 4 + 3 from by omega]; simpa using d
  obtain ⟨a, b, c', d⟩ := key l i hi
  have h1 := hc _ _ a
  have h2 := hc _ _ b
  have h3 := hc _ _ c'
  have h4 := hc _ _ d
  rw [plain_add, Nat.zero_add] at h1 h2 h3 h4
  exact ⟨h1, h2, h3, h4⟩
theorem lexL_sure (s : Bt) (h : s.length ≤ 65536) : ((lexL s).1 = [] ∧ (lexL s).2.2.2 ≠ 0) ∨ ∃ l, lexL s = (l, (0, 0, 0)) ∧ Placed s 0 l := by
  have e : lexL s = lexF (s.length + 1) (s.drop 0) (posL s 0) [] := by unfold lexL; rw [if_neg (by omega)]; rfl
  rw [e]
  rcases lexF_sure s (s.length + 1) 0 [] (Nat.zero_le _) (by omega) with h | ⟨l, h1, h2⟩
  · exact .inl h
  · exact .inr ⟨l, by rw [h1]; simp, h2⟩

theorem placed_mono {s : Bt} {a b : Nat} {l : List TokD} (h : Placed s b l) (hab : a ≤ b) : Placed s a l := by
  cases h with
  | done _ h1 => exact .done a (by omega)
  | next _ b' n t l' h1 h2 h3 h4 h5 h6 h7 => exact .next a b' n t l' (by omega) h2 h3 h4 h5 h6 h7
theorem placed_at {s : Bt} {l : List TokD} {a k : Nat} (hk : k < l.length) (h : Placed s a (l.drop k)) :
    ∃ b n, a ≤ b ∧ b ≤ s.length ∧ posL s b = (l[k].line, l[k].col) ∧ (l[k].kind ≠ 4 → l[k].text = (s.drop b).take n ∧ b + n ≤ s.length) ∧ ((k + 1 < l.length ∧ Placed s b (l.drop (k + 1))) ∨ (k + 1 = l.length ∧ b = s.length)) := by
  rw [List.drop_eq_getElem_cons hk] at h
  generalize hr : l.drop (k + 1) = r at *
  generalize l[k] = t at *
  have hrl : r.length = l.length - (k + 1) := by rw [← hr, List.length_drop]
  cases h with
  | done _ h1 => exact ⟨s.length, 0, h1, by omega, rfl, fun _ => ⟨by simp, by omega⟩, .inr ⟨by simp at hrl; omega, rfl⟩⟩
  | next _ b n _ _ h1 h2 h3 h4 h5 h6 h7 =>
    have : 1 ≤ r.length := by cases h7 <;> simp
    exact ⟨b, n, h1, by omega, h2, fun hk => ⟨h3 hk, h6⟩, .inl ⟨by omega, placed_mono h7 (by omega)⟩⟩
theorem posL_le (s : Bt) (a : Nat) : (posL s a).1 ≤ 1 + s.length ∧ (posL s a).2 ≤ 2 + s.length := by
  have := advL_le (1, 1) (s.take a)
  have h : (s.take a).length ≤ s.length := by rw [List.length_take]; omega
  unfold posL
  simp only at this
  omega
theorem pos_next (s : Bt) {a : Nat} (h : a < s.length) : posL s (a + 1) = advB (posL s a) s[a] := advL_take h

set_option maxRecDepth 100000 in
set_option maxHeartbeats 4000000 in
theorem lexPlaces_any (nm : ByteArray) (w : World) (hn : nm.size ≤ 140737488351232) (hX : LaidX w) :
    Calls Tryd.prog 5 #[.string nm] w fun e w' => e = .returned (.bool true) ∧ Below w.heap.size w w' := by
  obtain ⟨s, hs0, hsl⟩ : ∃ s : Bt, Value.string nm = sv s ∧ s.length ≤ 281474976710656 := ⟨nm.data.toList, by show Value.string nm = Value.string ⟨nm.data.toList.toArray⟩; simp, by
    have e : nm.data.toList.length = nm.size := Array.length_toList
    omega⟩
  rw [hs0]
  clear hs0 hn
  have hsz := sv_size s
  go_enter Tryd.func5, Tryd.ntmps5
  go_wp2_with fail
  refine (awake_any _ hX).mono ?_
  rintro e w1 ⟨rfl, hb1⟩
  by_cases h5 : (5000 : Int) < s.length
  · go_wp2_with fail
    go_ret
    exact ⟨rfl, hb1⟩
  go_wp2_with fail
  refine (lex_any _ s (hX.below hb1)).mono ?_
  rintro e w2 ⟨v, n, rfl, hrow, hb2⟩
  have hB2 := bthen hb1 hb2
  have hsure := lexL_sure s (by omega)
  generalize lexL s = ans at *
  obtain ⟨toks, ln, cl, er⟩ := ans
  simp only at hsure hrow
  unfold diagV
  simp only []
  rcases hsure with ⟨_, her⟩ | ⟨l, hl, hpl⟩
  · go_wp2_with fail
    go_ret
    exact ⟨rfl, hB2.alloc hB2.size _⟩
  · simp only [Prod.mk.injEq] at hl
    obtain ⟨rfl, rfl, rfl, rfl⟩ := hl
    generalize toks = l at *
    have hlen0 : 1 ≤ l.length := by cases hpl <;> simp
    have hrl : n = l.length := by have := hrow.1; rw [tokCells_length] at this; omega
    subst hrl
    obtain ⟨g, c, rfl, _, hgl, _, hcm⟩ := own_form hrow (by omega)
    unfold maxLen at hcm
    have hr2 := hrow.alloc (.cells #[.int .i64 0, .int .i64 0, .int .i64 0, .int .i64 0] 26)
    have hB3 := hB2.alloc hB2.size (.cells #[.int .i64 0, .int .i64 0, .int .i64 0, .int .i64 0] 26)
    have HROW := hid hr2
    have HPL := hid hpl
    clear hrow hr2 hpl hb1 hb2 hB2
    go_wp2_with fail
    generalize w2.alloc (.cells #[.int .i64 0, .int .i64 0, .int .i64 0, .int .i64 0] 26) = w3 at *
    go_loopw [6, 7, 8, 9, 10] (fun v6 v7 v8 v9 v10 wr => ∃ k a : Nat, v9 = .int .i64 k ∧ v6 = .int .i64 a ∧ v7 = .int .i64 (posL s a).1 ∧ v8 = .int .i64 (posL s a).2 ∧ k ≤ l.length ∧ a ≤ s.length ∧
      ((k < l.length ∧ Placed s a (l.drop k)) ∨ (k = l.length ∧ a = s.length)) ∧ Below w3.heap.size w3 wr) (fun _ _ _ v9 _ _ => l.length - (intOf v9).toNat)
    case atStart => exact ⟨0, 0, rfl, rfl, rfl, rfl, by omega, by omega, .inl ⟨by omega, by simpa using HPL.out⟩, Below.refl _ _⟩
    case round =>
      obtain ⟨k, a, rfl, rfl, rfl, rfl, hk, ha, hcase, hbr⟩ := hrel
      by_cases hlt : k < l.length
      · have hpl : Placed s a (l.drop k) := by
          rcases hcase with h | h
          · exact h.2
          · omega
        obtain ⟨b, n, hab, hbl, hpos, htext, hnext⟩ := placed_at hlt hpl
        obtain ⟨d0, d1, d2, d3⟩ := tok_cells (own_below HROW.out hbr) hlt
        have HT := hid htext
        have HN := hid hnext
        clear hcase hpl htext hnext
        generalize l[k] = T at *
        obtain ⟨kd, t, ln, cl⟩ := T
        simp only at hpos d0 d1 d2 d3
        have HP := hid hpos
        clear hpos
        go_wp2_with fail
        go_loop [6, 7, 8] (fun v6 v7 v8 => ∃ a1 : Nat, v6 = .int .i64 a1 ∧ v7 = .int .i64 (posL s a1).1 ∧ v8 = .int .i64 (posL s a1).2 ∧ a ≤ a1 ∧ a1 ≤ b) (fun v6 _ _ => b - (intOf v6).toNat)
        case atStart => exact ⟨a, rfl, rfl, rfl, by omega, hab⟩
        case round =>
          obtain ⟨a1, rfl, rfl, rfl, h1, h2⟩ := hrel
          by_cases hlt1 : a1 < b
          · have hbf := posL_rises s hlt1 hbl
            have hl1 : a1 < s.length := by omega
            have hnx := pos_next s hl1
            rw [HP.out] at hbf
            unfold before at hbf
            have hix := sv_index s a1 hl1
            have HNX := hid hnx
            clear hnx
            generalize s[a1] = X at *
            generalize hpq : posL s a1 = p1 at *
            obtain ⟨q1, q2⟩ := p1
            simp only at hbf ⊢
            have key : ∀ a2 : Nat, a2 = a1 + 1 → ∀ x y : Nat, posL s a2 = (x, y) → ∃ z : Nat, Value.int .i64 (a2 : Int) = .int .i64 z ∧ Value.int .i64 (x : Int) = .int .i64 (posL s z).1 ∧ Value.int .i64 (y : Int) = .int .i64 (posL s z).2 ∧ a ≤ z ∧ z ≤ b := by
              intro a2 h3 x y hxy
              exact ⟨a2, rfl, by rw [hxy], by rw [hxy], by omega, by omega⟩
            have HK := hid key
            clear key
            have hq : (X.toNat = 10 ∧ posL s (a1 + 1) = (q1 + 1, 1)) ∨ (X.toNat ≠ 10 ∧ posL s (a1 + 1) = (q1, q2 + 1)) := by
              have := HNX.out
              unfold advB at this
              by_cases h10 : X.toNat = 10
              · rw [if_pos h10] at this; exact .inl ⟨h10, this⟩
              · rw [if_neg h10] at this; exact .inr ⟨h10, this⟩
            have hqb := posL_le s a1
            have hqc := posL_le s b
            have HQ := hid hq
            clear hq
            rw [HP.out] at hqc
            rw [show posL s a1 = (q1, q2) from hpq] at hqb
            simp only at hqb hqc
            clear hpq
            rcases hbf with h3 | ⟨h3, h4⟩
            · rcases HQ.out with ⟨h10, hp⟩ | ⟨h10, hp⟩
              · have HP2 := hid hp
                clear hp HQ
                go_wp2_with fail
                go_round
                case rel => exact HK.out (a1 + 1) rfl _ _ HP2.out
                case measure => simp [intOf]; omega
              · have HP2 := hid hp
                clear hp HQ
                go_wp2_with fail
                go_round
                case rel => exact HK.out (a1 + 1) rfl _ _ HP2.out
                case measure => simp [intOf]; omega
            · subst h3
              rcases HQ.out with ⟨h10, hp⟩ | ⟨h10, hp⟩
              · have HP2 := hid hp
                clear hp HQ
                go_wp2_with fail
                go_round
                case rel => exact HK.out (a1 + 1) rfl _ _ HP2.out
                case measure => simp [intOf]; omega
              · have HP2 := hid hp
                clear hp HQ
                go_wp2_with fail
                go_round
                case rel => exact HK.out (a1 + 1) rfl _ _ HP2.out
                case measure => simp [intOf]; omega
          · obtain rfl : a1 = b := by omega
            rw [HP.out]
            have hqc := posL_le s a1
            rw [HP.out] at hqc
            simp only at hqc ⊢
            have fin : ∀ w', Below w3.heap.size w3 w' → ∃ k_1 a_1 : Nat, Value.int .i64 ((k + 1 : Nat) : Int) = .int .i64 k_1 ∧ Value.int .i64 (a1 : Int) = .int .i64 a_1 ∧ Value.int .i64 (ln : Int) = .int .i64 (posL s a_1).1 ∧ Value.int .i64 (cl : Int) = .int .i64 (posL s a_1).2 ∧ k_1 ≤ l.length ∧ a_1 ≤ s.length ∧
                ((k_1 < l.length ∧ Placed s a_1 (l.drop k_1)) ∨ (k_1 = l.length ∧ a_1 = s.length)) ∧ Below w3.heap.size w3 w' := by
              intro w' hw'
              exact ⟨k + 1, a1, rfl, rfl, by rw [HP.out], by rw [HP.out], by omega, by omega, HN.out, hw'⟩
            have FIN := hid fin
            clear fin
            have hS0 : wr.drew.cell? ⟨g, k * 4, none⟩ = some (.int .i64 kd) ∧ wr.drew.cell? ⟨g, k * 4 + 1, none⟩ = some (sv t) := ⟨d0, d1⟩
            have hS1 : Below w3.heap.size w3 wr.drew := hbr.trans ((below_drawn wr 1).mono hbr.size)
            by_cases h4 : kd = 4
            · subst h4
              by_cases hl1 : a1 < s.length
              · go_wp2_with fail
                refine wp_region_held_drew (S := fun w' => w'.cell? ⟨g, k * 4, none⟩ = some (.int .i64 4) ∧ w'.cell? ⟨g, k * 4 + 1, none⟩ = some (sv t)) (by kernel_rfl) hS0 (fun _ => ?_)
                try simp only [Act.put, List.getElem_toArray, List.getElem_cons_zero, List.getElem_cons_succ, List.setIfInBounds_toArray, List.set_cons_zero, List.set_cons_succ]
                refine wpAnyH_take (i := 0) (v := (.slice (some ⟨g, 0, none⟩) l.length c)) rfl (by kernel_rfl) (by kernel_rfl) (by kernel_rfl) (fun _ _ _ h => h) (Or.inl ⟨by kernel_rfl, by intro w hSw; obtain ⟨hSw0, hSw1⟩ := hSw; go_simp⟩) hS0 ?_
                try simp only [Act.put, List.getElem_toArray, List.getElem_cons_zero, List.getElem_cons_succ, List.setIfInBounds_toArray, List.set_cons_zero, List.set_cons_succ]
                refine wpAnyH_take (i := 1) (v := (.int .i64 k)) rfl (by kernel_rfl) (by kernel_rfl) (by kernel_rfl) (fun _ _ _ h => h) (Or.inl ⟨by kernel_rfl, by intro w hSw; obtain ⟨hSw0, hSw1⟩ := hSw; go_simp⟩) hS0 ?_
                try simp only [Act.put, List.getElem_toArray, List.getElem_cons_zero, List.getElem_cons_succ, List.setIfInBounds_toArray, List.set_cons_zero, List.set_cons_succ]
                refine wpAnyH_take (i := 2) (v := (.pointer (some ⟨g, k * 4, none⟩))) rfl (by kernel_rfl) (by kernel_rfl) (by kernel_rfl) (fun _ _ _ h => h) (Or.inl ⟨by kernel_rfl, by intro w hSw; obtain ⟨hSw0, hSw1⟩ := hSw; go_simp⟩) hS0 ?_
                try simp only [Act.put, List.getElem_toArray, List.getElem_cons_zero, List.getElem_cons_succ, List.setIfInBounds_toArray, List.set_cons_zero, List.set_cons_succ]
                refine wpAnyH_take (i := 3) (v := (.pointer (some ⟨g, k * 4, none⟩))) rfl (by kernel_rfl) (by kernel_rfl) (by kernel_rfl) (fun _ _ _ h => h) (Or.inl ⟨by kernel_rfl, by intro w hSw; obtain ⟨hSw0, hSw1⟩ := hSw; go_simp⟩) hS0 ?_
                try simp only [Act.put, List.getElem_toArray, List.getElem_cons_zero, List.getElem_cons_succ, List.setIfInBounds_toArray, List.set_cons_zero, List.set_cons_succ]
                refine wpAnyH_take (i := 4) (v := (.int .i64 4)) rfl (by kernel_rfl) (by kernel_rfl) (by kernel_rfl) (fun _ _ _ h => h) (Or.inl ⟨by kernel_rfl, by intro w hSw; obtain ⟨hSw0, hSw1⟩ := hSw; go_simp⟩) hS0 ?_
                try simp only [Act.put, List.getElem_toArray, List.getElem_cons_zero, List.getElem_cons_succ, List.setIfInBounds_toArray, List.set_cons_zero, List.set_cons_succ]
                refine wpAnyH_take (i := 5) (v := (.bool false)) rfl (by kernel_rfl) (by kernel_rfl) (by kernel_rfl) (fun _ _ _ h => h) (Or.inl ⟨by kernel_rfl, by intro w hSw; obtain ⟨hSw0, hSw1⟩ := hSw; go_simp⟩) hS0 ?_
                try simp only [Act.put, List.getElem_toArray, List.getElem_cons_zero, List.getElem_cons_succ, List.setIfInBounds_toArray, List.set_cons_zero, List.set_cons_succ]
                refine wpAnyH_take (i := 6) (v := (.bool false)) rfl (by kernel_rfl) (by kernel_rfl) (by kernel_rfl) (fun _ _ _ h => h) (Or.inl ⟨by kernel_rfl, by intro w hSw; obtain ⟨hSw0, hSw1⟩ := hSw; go_simp⟩) hS0 ?_
                try simp only [Act.put, List.getElem_toArray, List.getElem_cons_zero, List.getElem_cons_succ, List.setIfInBounds_toArray, List.set_cons_zero, List.set_cons_succ]
                refine wpAnyH_take (i := 7) (v := undef) rfl (by kernel_rfl) (by kernel_rfl) (by kernel_rfl) (fun _ _ _ h => h) (Or.inr ⟨by kernel_rfl, rfl⟩) hS0 ?_
                try simp only [Act.put, List.getElem_toArray, List.getElem_cons_zero, List.getElem_cons_succ, List.setIfInBounds_toArray, List.set_cons_zero, List.set_cons_succ]
                refine wpAnyH_take (i := 8) (v := undef) rfl (by kernel_rfl) (by kernel_rfl) (by kernel_rfl) (fun _ _ _ h => h) (Or.inr ⟨by kernel_rfl, rfl⟩) hS0 ?_
                try simp only [Act.put, List.getElem_toArray, List.getElem_cons_zero, List.getElem_cons_succ, List.setIfInBounds_toArray, List.set_cons_zero, List.set_cons_succ]
                refine wpAnyH_take (i := 9) (v := undef) rfl (by kernel_rfl) (by kernel_rfl) (by kernel_rfl) (fun _ _ _ h => h) (Or.inr ⟨by kernel_rfl, rfl⟩) hS0 ?_
                try simp only [Act.put, List.getElem_toArray, List.getElem_cons_zero, List.getElem_cons_succ, List.setIfInBounds_toArray, List.set_cons_zero, List.set_cons_succ]
                refine wpAnyH_take (i := 10) (v := undef) rfl (by kernel_rfl) (by kernel_rfl) (by kernel_rfl) (fun _ _ _ h => h) (Or.inr ⟨by kernel_rfl, rfl⟩) hS0 ?_
                try simp only [Act.put, List.getElem_toArray, List.getElem_cons_zero, List.getElem_cons_succ, List.setIfInBounds_toArray, List.set_cons_zero, List.set_cons_succ]
                refine wpAnyH_take (i := 11) (v := undef) rfl (by kernel_rfl) (by kernel_rfl) (by kernel_rfl) (fun _ _ _ h => h) (Or.inr ⟨by kernel_rfl, rfl⟩) hS0 ?_
                try simp only [Act.put, List.getElem_toArray, List.getElem_cons_zero, List.getElem_cons_succ, List.setIfInBounds_toArray, List.set_cons_zero, List.set_cons_succ]
                refine wpAnyH_take (i := 12) (v := undef) rfl (by kernel_rfl) (by kernel_rfl) (by kernel_rfl) (fun _ _ _ h => h) (Or.inr ⟨by kernel_rfl, rfl⟩) hS0 ?_
                try simp only [Act.put, List.getElem_toArray, List.getElem_cons_zero, List.getElem_cons_succ, List.setIfInBounds_toArray, List.set_cons_zero, List.set_cons_succ]
                refine wpAnyH_take (i := 13) (v := undef) rfl (by kernel_rfl) (by kernel_rfl) (by kernel_rfl) (fun _ _ _ h => h) (Or.inr ⟨by kernel_rfl, rfl⟩) hS0 ?_
                try simp only [Act.put, List.getElem_toArray, List.getElem_cons_zero, List.getElem_cons_succ, List.setIfInBounds_toArray, List.set_cons_zero, List.set_cons_succ]
                refine wpAnyH_take (i := 14) (v := undef) rfl (by kernel_rfl) (by kernel_rfl) (by kernel_rfl) (fun _ _ _ h => h) (Or.inr ⟨by kernel_rfl, rfl⟩) hS0 ?_
                try simp only [Act.put, List.getElem_toArray, List.getElem_cons_zero, List.getElem_cons_succ, List.setIfInBounds_toArray, List.set_cons_zero, List.set_cons_succ]
                refine wpAnyH_take (i := 15) (v := undef) rfl (by kernel_rfl) (by kernel_rfl) (by kernel_rfl) (fun _ _ _ h => h) (Or.inr ⟨by kernel_rfl, rfl⟩) hS0 ?_
                try simp only [Act.put, List.getElem_toArray, List.getElem_cons_zero, List.getElem_cons_succ, List.setIfInBounds_toArray, List.set_cons_zero, List.set_cons_succ]
                refine wpAnyH_take (i := 16) (v := undef) rfl (by kernel_rfl) (by kernel_rfl) (by kernel_rfl) (fun _ _ _ h => h) (Or.inr ⟨by kernel_rfl, rfl⟩) hS0 ?_
                try simp only [Act.put, List.getElem_toArray, List.getElem_cons_zero, List.getElem_cons_succ, List.setIfInBounds_toArray, List.set_cons_zero, List.set_cons_succ]
                refine wpAnyH_take (i := 17) (v := undef) rfl (by kernel_rfl) (by kernel_rfl) (by kernel_rfl) (fun _ _ _ h => h) (Or.inr ⟨by kernel_rfl, rfl⟩) hS0 ?_
                try simp only [Act.put, List.getElem_toArray, List.getElem_cons_zero, List.getElem_cons_succ, List.setIfInBounds_toArray, List.set_cons_zero, List.set_cons_succ]
                refine wpAnyH_take (i := 18) (v := undef) rfl (by kernel_rfl) (by kernel_rfl) (by kernel_rfl) (fun _ _ _ h => h) (Or.inr ⟨by kernel_rfl, rfl⟩) hS0 ?_
                try simp only [Act.put, List.getElem_toArray, List.getElem_cons_zero, List.getElem_cons_succ, List.setIfInBounds_toArray, List.set_cons_zero, List.set_cons_succ]
                refine wpAnyH_take (i := 19) (v := undef) rfl (by kernel_rfl) (by kernel_rfl) (by kernel_rfl) (fun _ _ _ h => h) (Or.inr ⟨by kernel_rfl, rfl⟩) hS0 ?_
                try simp only [Act.put, List.getElem_toArray, List.getElem_cons_zero, List.getElem_cons_succ, List.setIfInBounds_toArray, List.set_cons_zero, List.set_cons_succ]
                refine wpAnyH_take (i := 20) (v := undef) rfl (by kernel_rfl) (by kernel_rfl) (by kernel_rfl) (fun _ _ _ h => h) (Or.inr ⟨by kernel_rfl, rfl⟩) hS0 ?_
                try simp only [Act.put, List.getElem_toArray, List.getElem_cons_zero, List.getElem_cons_succ, List.setIfInBounds_toArray, List.set_cons_zero, List.set_cons_succ]
                refine wpAnyH_take (i := 21) (v := undef) rfl (by kernel_rfl) (by kernel_rfl) (by kernel_rfl) (fun _ _ _ h => h) (Or.inr ⟨by kernel_rfl, rfl⟩) hS0 ?_
                try simp only [Act.put, List.getElem_toArray, List.getElem_cons_zero, List.getElem_cons_succ, List.setIfInBounds_toArray, List.set_cons_zero, List.set_cons_succ]
                refine wpAnyH_take (i := 22) (v := undef) rfl (by kernel_rfl) (by kernel_rfl) (by kernel_rfl) (fun _ _ _ h => h) (Or.inr ⟨by kernel_rfl, rfl⟩) hS0 ?_
                try simp only [Act.put, List.getElem_toArray, List.getElem_cons_zero, List.getElem_cons_succ, List.setIfInBounds_toArray, List.set_cons_zero, List.set_cons_succ]
                refine wpAnyH_take (i := 23) (v := undef) rfl (by kernel_rfl) (by kernel_rfl) (by kernel_rfl) (fun _ _ _ h => h) (Or.inr ⟨by kernel_rfl, rfl⟩) hS0 ?_
                try simp only [Act.put, List.getElem_toArray, List.getElem_cons_zero, List.getElem_cons_succ, List.setIfInBounds_toArray, List.set_cons_zero, List.set_cons_succ]
                refine wpAnyH_take (i := 24) (v := undef) rfl (by kernel_rfl) (by kernel_rfl) (by kernel_rfl) (fun _ _ _ h => h) (Or.inr ⟨by kernel_rfl, rfl⟩) hS0 ?_
                try simp only [Act.put, List.getElem_toArray, List.getElem_cons_zero, List.getElem_cons_succ, List.setIfInBounds_toArray, List.set_cons_zero, List.set_cons_succ]
                refine wpAnyH_take (i := 25) (v := undef) rfl (by kernel_rfl) (by kernel_rfl) (by kernel_rfl) (fun _ _ _ h => h) (Or.inr ⟨by kernel_rfl, rfl⟩) hS0 ?_
                try simp only [Act.put, List.getElem_toArray, List.getElem_cons_zero, List.getElem_cons_succ, List.setIfInBounds_toArray, List.set_cons_zero, List.set_cons_succ]
                refine wpAnyH_take (i := 26) (v := undef) rfl (by kernel_rfl) (by kernel_rfl) (by kernel_rfl) (fun _ _ _ h => h) (Or.inr ⟨by kernel_rfl, rfl⟩) hS0 ?_
                try simp only [Act.put, List.getElem_toArray, List.getElem_cons_zero, List.getElem_cons_succ, List.setIfInBounds_toArray, List.set_cons_zero, List.set_cons_succ]
                refine wpAnyH_take (i := 27) (v := (.bool false)) rfl (by kernel_rfl) (by kernel_rfl) (by kernel_rfl) (fun _ _ _ h => h) (Or.inl ⟨by kernel_rfl, by intro w hSw; obtain ⟨hSw0, hSw1⟩ := hSw; go_simp⟩) hS0 ?_
                try simp only [Act.put, List.getElem_toArray, List.getElem_cons_zero, List.getElem_cons_succ, List.setIfInBounds_toArray, List.set_cons_zero, List.set_cons_succ]
                refine wpAnyH_done (by kernel_rfl) ?_ _
                go_wp2_with fail
                go_roundw
                case rel => first | exact FIN.out _ hS1 | ((repeat apply Exists.intro); exact ⟨FIN.out _ hS1, rfl⟩)
                case measure => simp [intOf]; omega
              · go_wp2_with fail
                refine wp_region_held_drew (S := fun w' => w'.cell? ⟨g, k * 4, none⟩ = some (.int .i64 4) ∧ w'.cell? ⟨g, k * 4 + 1, none⟩ = some (sv t)) (by kernel_rfl) hS0 (fun _ => ?_)
                try simp only [Act.put, List.getElem_toArray, List.getElem_cons_zero, List.getElem_cons_succ, List.setIfInBounds_toArray, List.set_cons_zero, List.set_cons_succ]
                refine wpAnyH_take (i := 0) (v := (.slice (some ⟨g, 0, none⟩) l.length c)) rfl (by kernel_rfl) (by kernel_rfl) (by kernel_rfl) (fun _ _ _ h => h) (Or.inl ⟨by kernel_rfl, by intro w hSw; obtain ⟨hSw0, hSw1⟩ := hSw; go_simp⟩) hS0 ?_
                try simp only [Act.put, List.getElem_toArray, List.getElem_cons_zero, List.getElem_cons_succ, List.setIfInBounds_toArray, List.set_cons_zero, List.set_cons_succ]
                refine wpAnyH_take (i := 1) (v := (.int .i64 k)) rfl (by kernel_rfl) (by kernel_rfl) (by kernel_rfl) (fun _ _ _ h => h) (Or.inl ⟨by kernel_rfl, by intro w hSw; obtain ⟨hSw0, hSw1⟩ := hSw; go_simp⟩) hS0 ?_
                try simp only [Act.put, List.getElem_toArray, List.getElem_cons_zero, List.getElem_cons_succ, List.setIfInBounds_toArray, List.set_cons_zero, List.set_cons_succ]
                refine wpAnyH_take (i := 2) (v := (.pointer (some ⟨g, k * 4, none⟩))) rfl (by kernel_rfl) (by kernel_rfl) (by kernel_rfl) (fun _ _ _ h => h) (Or.inl ⟨by kernel_rfl, by intro w hSw; obtain ⟨hSw0, hSw1⟩ := hSw; go_simp⟩) hS0 ?_
                try simp only [Act.put, List.getElem_toArray, List.getElem_cons_zero, List.getElem_cons_succ, List.setIfInBounds_toArray, List.set_cons_zero, List.set_cons_succ]
                refine wpAnyH_take (i := 3) (v := (.pointer (some ⟨g, k * 4, none⟩))) rfl (by kernel_rfl) (by kernel_rfl) (by kernel_rfl) (fun _ _ _ h => h) (Or.inl ⟨by kernel_rfl, by intro w hSw; obtain ⟨hSw0, hSw1⟩ := hSw; go_simp⟩) hS0 ?_
                try simp only [Act.put, List.getElem_toArray, List.getElem_cons_zero, List.getElem_cons_succ, List.setIfInBounds_toArray, List.set_cons_zero, List.set_cons_succ]
                refine wpAnyH_take (i := 4) (v := (.int .i64 4)) rfl (by kernel_rfl) (by kernel_rfl) (by kernel_rfl) (fun _ _ _ h => h) (Or.inl ⟨by kernel_rfl, by intro w hSw; obtain ⟨hSw0, hSw1⟩ := hSw; go_simp⟩) hS0 ?_
                try simp only [Act.put, List.getElem_toArray, List.getElem_cons_zero, List.getElem_cons_succ, List.setIfInBounds_toArray, List.set_cons_zero, List.set_cons_succ]
                refine wpAnyH_take (i := 5) (v := (.bool false)) rfl (by kernel_rfl) (by kernel_rfl) (by kernel_rfl) (fun _ _ _ h => h) (Or.inl ⟨by kernel_rfl, by intro w hSw; obtain ⟨hSw0, hSw1⟩ := hSw; go_simp⟩) hS0 ?_
                try simp only [Act.put, List.getElem_toArray, List.getElem_cons_zero, List.getElem_cons_succ, List.setIfInBounds_toArray, List.set_cons_zero, List.set_cons_succ]
                refine wpAnyH_take (i := 6) (v := (.bool false)) rfl (by kernel_rfl) (by kernel_rfl) (by kernel_rfl) (fun _ _ _ h => h) (Or.inl ⟨by kernel_rfl, by intro w hSw; obtain ⟨hSw0, hSw1⟩ := hSw; go_simp⟩) hS0 ?_
                try simp only [Act.put, List.getElem_toArray, List.getElem_cons_zero, List.getElem_cons_succ, List.setIfInBounds_toArray, List.set_cons_zero, List.set_cons_succ]
                refine wpAnyH_take (i := 7) (v := undef) rfl (by kernel_rfl) (by kernel_rfl) (by kernel_rfl) (fun _ _ _ h => h) (Or.inr ⟨by kernel_rfl, rfl⟩) hS0 ?_
                try simp only [Act.put, List.getElem_toArray, List.getElem_cons_zero, List.getElem_cons_succ, List.setIfInBounds_toArray, List.set_cons_zero, List.set_cons_succ]
                refine wpAnyH_take (i := 8) (v := undef) rfl (by kernel_rfl) (by kernel_rfl) (by kernel_rfl) (fun _ _ _ h => h) (Or.inr ⟨by kernel_rfl, rfl⟩) hS0 ?_
                try simp only [Act.put, List.getElem_toArray, List.getElem_cons_zero, List.getElem_cons_succ, List.setIfInBounds_toArray, List.set_cons_zero, List.set_cons_succ]
                refine wpAnyH_take (i := 9) (v := undef) rfl (by kernel_rfl) (by kernel_rfl) (by kernel_rfl) (fun _ _ _ h => h) (Or.inr ⟨by kernel_rfl, rfl⟩) hS0 ?_
                try simp only [Act.put, List.getElem_toArray, List.getElem_cons_zero, List.getElem_cons_succ, List.setIfInBounds_toArray, List.set_cons_zero, List.set_cons_succ]
                refine wpAnyH_take (i := 10) (v := undef) rfl (by kernel_rfl) (by kernel_rfl) (by kernel_rfl) (fun _ _ _ h => h) (Or.inr ⟨by kernel_rfl, rfl⟩) hS0 ?_
                try simp only [Act.put, List.getElem_toArray, List.getElem_cons_zero, List.getElem_cons_succ, List.setIfInBounds_toArray, List.set_cons_zero, List.set_cons_succ]
                refine wpAnyH_take (i := 11) (v := undef) rfl (by kernel_rfl) (by kernel_rfl) (by kernel_rfl) (fun _ _ _ h => h) (Or.inr ⟨by kernel_rfl, rfl⟩) hS0 ?_
                try simp only [Act.put, List.getElem_toArray, List.getElem_cons_zero, List.getElem_cons_succ, List.setIfInBounds_toArray, List.set_cons_zero, List.set_cons_succ]
                refine wpAnyH_take (i := 12) (v := undef) rfl (by kernel_rfl) (by kernel_rfl) (by kernel_rfl) (fun _ _ _ h => h) (Or.inr ⟨by kernel_rfl, rfl⟩) hS0 ?_
                try simp only [Act.put, List.getElem_toArray, List.getElem_cons_zero, List.getElem_cons_succ, List.setIfInBounds_toArray, List.set_cons_zero, List.set_cons_succ]
                refine wpAnyH_take (i := 13) (v := undef) rfl (by kernel_rfl) (by kernel_rfl) (by kernel_rfl) (fun _ _ _ h => h) (Or.inr ⟨by kernel_rfl, rfl⟩) hS0 ?_
                try simp only [Act.put, List.getElem_toArray, List.getElem_cons_zero, List.getElem_cons_succ, List.setIfInBounds_toArray, List.set_cons_zero, List.set_cons_succ]
                refine wpAnyH_take (i := 14) (v := undef) rfl (by kernel_rfl) (by kernel_rfl) (by kernel_rfl) (fun _ _ _ h => h) (Or.inr ⟨by kernel_rfl, rfl⟩) hS0 ?_
                try simp only [Act.put, List.getElem_toArray, List.getElem_cons_zero, List.getElem_cons_succ, List.setIfInBounds_toArray, List.set_cons_zero, List.set_cons_succ]
                refine wpAnyH_take (i := 15) (v := undef) rfl (by kernel_rfl) (by kernel_rfl) (by kernel_rfl) (fun _ _ _ h => h) (Or.inr ⟨by kernel_rfl, rfl⟩) hS0 ?_
                try simp only [Act.put, List.getElem_toArray, List.getElem_cons_zero, List.getElem_cons_succ, List.setIfInBounds_toArray, List.set_cons_zero, List.set_cons_succ]
                refine wpAnyH_take (i := 16) (v := undef) rfl (by kernel_rfl) (by kernel_rfl) (by kernel_rfl) (fun _ _ _ h => h) (Or.inr ⟨by kernel_rfl, rfl⟩) hS0 ?_
                try simp only [Act.put, List.getElem_toArray, List.getElem_cons_zero, List.getElem_cons_succ, List.setIfInBounds_toArray, List.set_cons_zero, List.set_cons_succ]
                refine wpAnyH_take (i := 17) (v := undef) rfl (by kernel_rfl) (by kernel_rfl) (by kernel_rfl) (fun _ _ _ h => h) (Or.inr ⟨by kernel_rfl, rfl⟩) hS0 ?_
                try simp only [Act.put, List.getElem_toArray, List.getElem_cons_zero, List.getElem_cons_succ, List.setIfInBounds_toArray, List.set_cons_zero, List.set_cons_succ]
                refine wpAnyH_take (i := 18) (v := undef) rfl (by kernel_rfl) (by kernel_rfl) (by kernel_rfl) (fun _ _ _ h => h) (Or.inr ⟨by kernel_rfl, rfl⟩) hS0 ?_
                try simp only [Act.put, List.getElem_toArray, List.getElem_cons_zero, List.getElem_cons_succ, List.setIfInBounds_toArray, List.set_cons_zero, List.set_cons_succ]
                refine wpAnyH_take (i := 19) (v := undef) rfl (by kernel_rfl) (by kernel_rfl) (by kernel_rfl) (fun _ _ _ h => h) (Or.inr ⟨by kernel_rfl, rfl⟩) hS0 ?_
                try simp only [Act.put, List.getElem_toArray, List.getElem_cons_zero, List.getElem_cons_succ, List.setIfInBounds_toArray, List.set_cons_zero, List.set_cons_succ]
                refine wpAnyH_take (i := 20) (v := undef) rfl (by kernel_rfl) (by kernel_rfl) (by kernel_rfl) (fun _ _ _ h => h) (Or.inr ⟨by kernel_rfl, rfl⟩) hS0 ?_
                try simp only [Act.put, List.getElem_toArray, List.getElem_cons_zero, List.getElem_cons_succ, List.setIfInBounds_toArray, List.set_cons_zero, List.set_cons_succ]
                refine wpAnyH_take (i := 21) (v := undef) rfl (by kernel_rfl) (by kernel_rfl) (by kernel_rfl) (fun _ _ _ h => h) (Or.inr ⟨by kernel_rfl, rfl⟩) hS0 ?_
                try simp only [Act.put, List.getElem_toArray, List.getElem_cons_zero, List.getElem_cons_succ, List.setIfInBounds_toArray, List.set_cons_zero, List.set_cons_succ]
                refine wpAnyH_take (i := 22) (v := undef) rfl (by kernel_rfl) (by kernel_rfl) (by kernel_rfl) (fun _ _ _ h => h) (Or.inr ⟨by kernel_rfl, rfl⟩) hS0 ?_
                try simp only [Act.put, List.getElem_toArray, List.getElem_cons_zero, List.getElem_cons_succ, List.setIfInBounds_toArray, List.set_cons_zero, List.set_cons_succ]
                refine wpAnyH_take (i := 23) (v := undef) rfl (by kernel_rfl) (by kernel_rfl) (by kernel_rfl) (fun _ _ _ h => h) (Or.inr ⟨by kernel_rfl, rfl⟩) hS0 ?_
                try simp only [Act.put, List.getElem_toArray, List.getElem_cons_zero, List.getElem_cons_succ, List.setIfInBounds_toArray, List.set_cons_zero, List.set_cons_succ]
                refine wpAnyH_take (i := 24) (v := undef) rfl (by kernel_rfl) (by kernel_rfl) (by kernel_rfl) (fun _ _ _ h => h) (Or.inr ⟨by kernel_rfl, rfl⟩) hS0 ?_
                try simp only [Act.put, List.getElem_toArray, List.getElem_cons_zero, List.getElem_cons_succ, List.setIfInBounds_toArray, List.set_cons_zero, List.set_cons_succ]
                refine wpAnyH_take (i := 25) (v := undef) rfl (by kernel_rfl) (by kernel_rfl) (by kernel_rfl) (fun _ _ _ h => h) (Or.inr ⟨by kernel_rfl, rfl⟩) hS0 ?_
                try simp only [Act.put, List.getElem_toArray, List.getElem_cons_zero, List.getElem_cons_succ, List.setIfInBounds_toArray, List.set_cons_zero, List.set_cons_succ]
                refine wpAnyH_take (i := 26) (v := undef) rfl (by kernel_rfl) (by kernel_rfl) (by kernel_rfl) (fun _ _ _ h => h) (Or.inr ⟨by kernel_rfl, rfl⟩) hS0 ?_
                try simp only [Act.put, List.getElem_toArray, List.getElem_cons_zero, List.getElem_cons_succ, List.setIfInBounds_toArray, List.set_cons_zero, List.set_cons_succ]
                refine wpAnyH_take (i := 27) (v := (.bool false)) rfl (by kernel_rfl) (by kernel_rfl) (by kernel_rfl) (fun _ _ _ h => h) (Or.inl ⟨by kernel_rfl, by intro w hSw; obtain ⟨hSw0, hSw1⟩ := hSw; go_simp⟩) hS0 ?_
                try simp only [Act.put, List.getElem_toArray, List.getElem_cons_zero, List.getElem_cons_succ, List.setIfInBounds_toArray, List.set_cons_zero, List.set_cons_succ]
                refine wpAnyH_done (by kernel_rfl) ?_ _
                go_wp2_with fail
                go_roundw
                case rel => first | exact FIN.out _ hS1 | ((repeat apply Exists.intro); exact ⟨FIN.out _ hS1, rfl⟩)
                case measure => simp [intOf]; omega
            · obtain ⟨htx, hen⟩ := HT.out h4
              have htl : t.length = n := by rw [htx, List.length_take, List.length_drop]; omega
              have hex : ByteArray.extract ⟨s.toArray⟩ a1 (a1 + t.length) = ⟨t.toArray⟩ := by
                have h := extract_sv s a1 (a1 + t.length)
                rw [List.drop_take, show a1 + t.length - a1 = n by omega, ← htx] at h
                injection h
              have hH := hid htx
              have hbt : (a1 : Int) + t.length ≤ s.length := by omega
              have hbt0 : (0 : Int) ≤ (a1 : Int) + t.length := by omega
              have hbt3 : (a1 : Int) ≤ (a1 : Int) + t.length := by omega
              have hbt4 : ((a1 : Int) + t.length).toNat = a1 + t.length := by omega
              have hbt2 : (t.length : Int) ≤ (s.length : Int) - a1 := by omega
              have hw1 : IntKind.i64.wrap ((s.length : Int) - a1) = (s.length : Int) - a1 := by rw [i64_wrap]; exact wrap64_id (by unfold In64; omega)
              have hw2 : IntKind.i64.wrap ((a1 : Int) + t.length) = (a1 : Int) + t.length := by rw [i64_wrap]; exact wrap64_id (by unfold In64; omega)
              clear htx hen htl
              by_cases hl1 : a1 < s.length
              · go_wp2_with fail
                refine wp_region_held_drew (S := fun w' => w'.cell? ⟨g, k * 4, none⟩ = some (.int .i64 kd) ∧ w'.cell? ⟨g, k * 4 + 1, none⟩ = some (sv t)) (by kernel_rfl) hS0 (fun _ => ?_)
                try simp only [Act.put, List.getElem_toArray, List.getElem_cons_zero, List.getElem_cons_succ, List.setIfInBounds_toArray, List.set_cons_zero, List.set_cons_succ]
                refine wpAnyH_take (i := 0) (v := (.slice (some ⟨g, 0, none⟩) l.length c)) rfl (by kernel_rfl) (by kernel_rfl) (by kernel_rfl) (fun _ _ _ h => h) (Or.inl ⟨by kernel_rfl, by intro w hSw; obtain ⟨hSw0, hSw1⟩ := hSw; go_simp⟩) hS0 ?_
                try simp only [Act.put, List.getElem_toArray, List.getElem_cons_zero, List.getElem_cons_succ, List.setIfInBounds_toArray, List.set_cons_zero, List.set_cons_succ]
                refine wpAnyH_take (i := 1) (v := (.int .i64 k)) rfl (by kernel_rfl) (by kernel_rfl) (by kernel_rfl) (fun _ _ _ h => h) (Or.inl ⟨by kernel_rfl, by intro w hSw; obtain ⟨hSw0, hSw1⟩ := hSw; go_simp⟩) hS0 ?_
                try simp only [Act.put, List.getElem_toArray, List.getElem_cons_zero, List.getElem_cons_succ, List.setIfInBounds_toArray, List.set_cons_zero, List.set_cons_succ]
                refine wpAnyH_take (i := 2) (v := (.pointer (some ⟨g, k * 4, none⟩))) rfl (by kernel_rfl) (by kernel_rfl) (by kernel_rfl) (fun _ _ _ h => h) (Or.inl ⟨by kernel_rfl, by intro w hSw; obtain ⟨hSw0, hSw1⟩ := hSw; go_simp⟩) hS0 ?_
                try simp only [Act.put, List.getElem_toArray, List.getElem_cons_zero, List.getElem_cons_succ, List.setIfInBounds_toArray, List.set_cons_zero, List.set_cons_succ]
                refine wpAnyH_take (i := 3) (v := (.pointer (some ⟨g, k * 4, none⟩))) rfl (by kernel_rfl) (by kernel_rfl) (by kernel_rfl) (fun _ _ _ h => h) (Or.inl ⟨by kernel_rfl, by intro w hSw; obtain ⟨hSw0, hSw1⟩ := hSw; go_simp⟩) hS0 ?_
                try simp only [Act.put, List.getElem_toArray, List.getElem_cons_zero, List.getElem_cons_succ, List.setIfInBounds_toArray, List.set_cons_zero, List.set_cons_succ]
                refine wpAnyH_take (i := 4) (v := (.int .i64 kd)) rfl (by kernel_rfl) (by kernel_rfl) (by kernel_rfl) (fun _ _ _ h => h) (Or.inl ⟨by kernel_rfl, by intro w hSw; obtain ⟨hSw0, hSw1⟩ := hSw; go_simp⟩) hS0 ?_
                try simp only [Act.put, List.getElem_toArray, List.getElem_cons_zero, List.getElem_cons_succ, List.setIfInBounds_toArray, List.set_cons_zero, List.set_cons_succ]
                refine wpAnyH_take (i := 5) (v := (.bool true)) rfl (by kernel_rfl) (by kernel_rfl) (by kernel_rfl) (fun _ _ _ h => h) (Or.inl ⟨by kernel_rfl, by intro w hSw; obtain ⟨hSw0, hSw1⟩ := hSw; go_simp⟩) hS0 ?_
                try simp only [Act.put, List.getElem_toArray, List.getElem_cons_zero, List.getElem_cons_succ, List.setIfInBounds_toArray, List.set_cons_zero, List.set_cons_succ]
                refine wpAnyH_take (i := 6) (v := (.bool true)) rfl (by kernel_rfl) (by kernel_rfl) (by kernel_rfl) (fun _ _ _ h => h) (Or.inl ⟨by kernel_rfl, by intro w hSw; obtain ⟨hSw0, hSw1⟩ := hSw; go_simp⟩) hS0 ?_
                try simp only [Act.put, List.getElem_toArray, List.getElem_cons_zero, List.getElem_cons_succ, List.setIfInBounds_toArray, List.set_cons_zero, List.set_cons_succ]
                refine wpAnyH_take (i := 7) (v := (.int .i64 t.length)) rfl (by kernel_rfl) (by kernel_rfl) (by kernel_rfl) (fun _ _ _ h => h) (Or.inl ⟨by kernel_rfl, by intro w hSw; obtain ⟨hSw0, hSw1⟩ := hSw; go_simp⟩) hS0 ?_
                try simp only [Act.put, List.getElem_toArray, List.getElem_cons_zero, List.getElem_cons_succ, List.setIfInBounds_toArray, List.set_cons_zero, List.set_cons_succ]
                refine wpAnyH_take (i := 8) (v := (sv s)) rfl (by kernel_rfl) (by kernel_rfl) (by kernel_rfl) (fun _ _ _ h => h) (Or.inl ⟨by kernel_rfl, by intro w hSw; obtain ⟨hSw0, hSw1⟩ := hSw; go_simp⟩) hS0 ?_
                try simp only [Act.put, List.getElem_toArray, List.getElem_cons_zero, List.getElem_cons_succ, List.setIfInBounds_toArray, List.set_cons_zero, List.set_cons_succ]
                refine wpAnyH_take (i := 9) (v := (.int .i64 s.length)) rfl (by kernel_rfl) (by kernel_rfl) (by kernel_rfl) (fun _ _ _ h => h) (Or.inl ⟨by kernel_rfl, by intro w hSw; obtain ⟨hSw0, hSw1⟩ := hSw; go_simp⟩) hS0 ?_
                try simp only [Act.put, List.getElem_toArray, List.getElem_cons_zero, List.getElem_cons_succ, List.setIfInBounds_toArray, List.set_cons_zero, List.set_cons_succ]
                refine wpAnyH_take (i := 10) (v := (.int .i64 a1)) rfl (by kernel_rfl) (by kernel_rfl) (by kernel_rfl) (fun _ _ _ h => h) (Or.inl ⟨by kernel_rfl, by intro w hSw; obtain ⟨hSw0, hSw1⟩ := hSw; go_simp⟩) hS0 ?_
                try simp only [Act.put, List.getElem_toArray, List.getElem_cons_zero, List.getElem_cons_succ, List.setIfInBounds_toArray, List.set_cons_zero, List.set_cons_succ]
                refine wpAnyH_take (i := 11) (v := (.int .i64 ((s.length : Int) - a1))) rfl (by kernel_rfl) (by kernel_rfl) (by kernel_rfl) (fun _ _ _ h => h) (Or.inl ⟨by kernel_rfl, by intro w hSw; obtain ⟨hSw0, hSw1⟩ := hSw; go_simp⟩) hS0 ?_
                try simp only [Act.put, List.getElem_toArray, List.getElem_cons_zero, List.getElem_cons_succ, List.setIfInBounds_toArray, List.set_cons_zero, List.set_cons_succ]
                refine wpAnyH_take (i := 12) (v := (.bool false)) rfl (by kernel_rfl) (by kernel_rfl) (by kernel_rfl) (fun _ _ _ h => h) (Or.inl ⟨by kernel_rfl, by intro w hSw; obtain ⟨hSw0, hSw1⟩ := hSw; go_simp⟩) hS0 ?_
                try simp only [Act.put, List.getElem_toArray, List.getElem_cons_zero, List.getElem_cons_succ, List.setIfInBounds_toArray, List.set_cons_zero, List.set_cons_succ]
                refine wpAnyH_take (i := 13) (v := (.bool false)) rfl (by kernel_rfl) (by kernel_rfl) (by kernel_rfl) (fun _ _ _ h => h) (Or.inl ⟨by kernel_rfl, by intro w hSw; obtain ⟨hSw0, hSw1⟩ := hSw; go_simp⟩) hS0 ?_
                try simp only [Act.put, List.getElem_toArray, List.getElem_cons_zero, List.getElem_cons_succ, List.setIfInBounds_toArray, List.set_cons_zero, List.set_cons_succ]
                refine wpAnyH_take (i := 14) (v := (sv s)) rfl (by kernel_rfl) (by kernel_rfl) (by kernel_rfl) (fun _ _ _ h => h) (Or.inl ⟨by kernel_rfl, by intro w hSw; obtain ⟨hSw0, hSw1⟩ := hSw; go_simp⟩) hS0 ?_
                try simp only [Act.put, List.getElem_toArray, List.getElem_cons_zero, List.getElem_cons_succ, List.setIfInBounds_toArray, List.set_cons_zero, List.set_cons_succ]
                refine wpAnyH_take (i := 15) (v := (.int .i64 a1)) rfl (by kernel_rfl) (by kernel_rfl) (by kernel_rfl) (fun _ _ _ h => h) (Or.inl ⟨by kernel_rfl, by intro w hSw; obtain ⟨hSw0, hSw1⟩ := hSw; go_simp⟩) hS0 ?_
                try simp only [Act.put, List.getElem_toArray, List.getElem_cons_zero, List.getElem_cons_succ, List.setIfInBounds_toArray, List.set_cons_zero, List.set_cons_succ]
                refine wpAnyH_take (i := 16) (v := (.int .i64 a1)) rfl (by kernel_rfl) (by kernel_rfl) (by kernel_rfl) (fun _ _ _ h => h) (Or.inl ⟨by kernel_rfl, by intro w hSw; obtain ⟨hSw0, hSw1⟩ := hSw; go_simp⟩) hS0 ?_
                try simp only [Act.put, List.getElem_toArray, List.getElem_cons_zero, List.getElem_cons_succ, List.setIfInBounds_toArray, List.set_cons_zero, List.set_cons_succ]
                refine wpAnyH_take (i := 17) (v := (.int .i64 t.length)) rfl (by kernel_rfl) (by kernel_rfl) (by kernel_rfl) (fun _ _ _ h => h) (Or.inl ⟨by kernel_rfl, by intro w hSw; obtain ⟨hSw0, hSw1⟩ := hSw; go_simp⟩) hS0 ?_
                try simp only [Act.put, List.getElem_toArray, List.getElem_cons_zero, List.getElem_cons_succ, List.setIfInBounds_toArray, List.set_cons_zero, List.set_cons_succ]
                refine wpAnyH_take (i := 18) (v := (.int .i64 ((a1 + t.length : Nat) : Int))) rfl (by kernel_rfl) (by kernel_rfl) (by kernel_rfl) (fun _ _ _ h => h) (Or.inl ⟨by kernel_rfl, by intro w hSw; obtain ⟨hSw0, hSw1⟩ := hSw; go_simp⟩) hS0 ?_
                try simp only [Act.put, List.getElem_toArray, List.getElem_cons_zero, List.getElem_cons_succ, List.setIfInBounds_toArray, List.set_cons_zero, List.set_cons_succ]
                refine wpAnyH_take (i := 19) (v := (sv t)) rfl (by kernel_rfl) (by kernel_rfl) (by kernel_rfl) (fun _ _ _ h => h) (Or.inl ⟨by kernel_rfl, by intro w hSw; obtain ⟨hSw0, hSw1⟩ := hSw; go_simp⟩) hS0 ?_
                try simp only [Act.put, List.getElem_toArray, List.getElem_cons_zero, List.getElem_cons_succ, List.setIfInBounds_toArray, List.set_cons_zero, List.set_cons_succ]
                refine wpAnyH_take (i := 20) (v := (.slice (some ⟨g, 0, none⟩) l.length c)) rfl (by kernel_rfl) (by kernel_rfl) (by kernel_rfl) (fun _ _ _ h => h) (Or.inl ⟨by kernel_rfl, by intro w hSw; obtain ⟨hSw0, hSw1⟩ := hSw; go_simp⟩) hS0 ?_
                try simp only [Act.put, List.getElem_toArray, List.getElem_cons_zero, List.getElem_cons_succ, List.setIfInBounds_toArray, List.set_cons_zero, List.set_cons_succ]
                refine wpAnyH_take (i := 21) (v := (.int .i64 k)) rfl (by kernel_rfl) (by kernel_rfl) (by kernel_rfl) (fun _ _ _ h => h) (Or.inl ⟨by kernel_rfl, by intro w hSw; obtain ⟨hSw0, hSw1⟩ := hSw; go_simp⟩) hS0 ?_
                try simp only [Act.put, List.getElem_toArray, List.getElem_cons_zero, List.getElem_cons_succ, List.setIfInBounds_toArray, List.set_cons_zero, List.set_cons_succ]
                refine wpAnyH_take (i := 22) (v := (.pointer (some ⟨g, k * 4, none⟩))) rfl (by kernel_rfl) (by kernel_rfl) (by kernel_rfl) (fun _ _ _ h => h) (Or.inl ⟨by kernel_rfl, by intro w hSw; obtain ⟨hSw0, hSw1⟩ := hSw; go_simp⟩) hS0 ?_
                try simp only [Act.put, List.getElem_toArray, List.getElem_cons_zero, List.getElem_cons_succ, List.setIfInBounds_toArray, List.set_cons_zero, List.set_cons_succ]
                refine wpAnyH_take (i := 23) (v := (.pointer (some ⟨g, k * 4 + 1, none⟩))) rfl (by kernel_rfl) (by kernel_rfl) (by kernel_rfl) (fun _ _ _ h => h) (Or.inl ⟨by kernel_rfl, by intro w hSw; obtain ⟨hSw0, hSw1⟩ := hSw; go_simp⟩) hS0 ?_
                try simp only [Act.put, List.getElem_toArray, List.getElem_cons_zero, List.getElem_cons_succ, List.setIfInBounds_toArray, List.set_cons_zero, List.set_cons_succ]
                refine wpAnyH_take (i := 24) (v := (sv t)) rfl (by kernel_rfl) (by kernel_rfl) (by kernel_rfl) (fun _ _ _ h => h) (Or.inl ⟨by kernel_rfl, by intro w hSw; obtain ⟨hSw0, hSw1⟩ := hSw; go_simp⟩) hS0 ?_
                try simp only [Act.put, List.getElem_toArray, List.getElem_cons_zero, List.getElem_cons_succ, List.setIfInBounds_toArray, List.set_cons_zero, List.set_cons_succ]
                refine wpAnyH_take (i := 25) (v := (.bool false)) rfl (by kernel_rfl) (by kernel_rfl) (by kernel_rfl) (fun _ _ _ h => h) (Or.inl ⟨by kernel_rfl, by intro w hSw; obtain ⟨hSw0, hSw1⟩ := hSw; go_simp⟩) hS0 ?_
                try simp only [Act.put, List.getElem_toArray, List.getElem_cons_zero, List.getElem_cons_succ, List.setIfInBounds_toArray, List.set_cons_zero, List.set_cons_succ]
                refine wpAnyH_take (i := 26) (v := (.bool false)) rfl (by kernel_rfl) (by kernel_rfl) (by kernel_rfl) (fun _ _ _ h => h) (Or.inl ⟨by kernel_rfl, by intro w hSw; obtain ⟨hSw0, hSw1⟩ := hSw; go_simp⟩) hS0 ?_
                try simp only [Act.put, List.getElem_toArray, List.getElem_cons_zero, List.getElem_cons_succ, List.setIfInBounds_toArray, List.set_cons_zero, List.set_cons_succ]
                refine wpAnyH_take (i := 27) (v := (.bool false)) rfl (by kernel_rfl) (by kernel_rfl) (by kernel_rfl) (fun _ _ _ h => h) (Or.inl ⟨by kernel_rfl, by intro w hSw; obtain ⟨hSw0, hSw1⟩ := hSw; go_simp⟩) hS0 ?_
                try simp only [Act.put, List.getElem_toArray, List.getElem_cons_zero, List.getElem_cons_succ, List.setIfInBounds_toArray, List.set_cons_zero, List.set_cons_succ]
                refine wpAnyH_done (by kernel_rfl) ?_ _
                go_wp2_with fail
                go_roundw
                case rel => first | exact FIN.out _ hS1 | ((repeat apply Exists.intro); exact ⟨FIN.out _ hS1, rfl⟩)
                case measure => simp [intOf]; omega
              · go_wp2_with fail
                refine wp_region_held_drew (S := fun w' => w'.cell? ⟨g, k * 4, none⟩ = some (.int .i64 kd) ∧ w'.cell? ⟨g, k * 4 + 1, none⟩ = some (sv t)) (by kernel_rfl) hS0 (fun _ => ?_)
                try simp only [Act.put, List.getElem_toArray, List.getElem_cons_zero, List.getElem_cons_succ, List.setIfInBounds_toArray, List.set_cons_zero, List.set_cons_succ]
                refine wpAnyH_take (i := 0) (v := (.slice (some ⟨g, 0, none⟩) l.length c)) rfl (by kernel_rfl) (by kernel_rfl) (by kernel_rfl) (fun _ _ _ h => h) (Or.inl ⟨by kernel_rfl, by intro w hSw; obtain ⟨hSw0, hSw1⟩ := hSw; go_simp⟩) hS0 ?_
                try simp only [Act.put, List.getElem_toArray, List.getElem_cons_zero, List.getElem_cons_succ, List.setIfInBounds_toArray, List.set_cons_zero, List.set_cons_succ]
                refine wpAnyH_take (i := 1) (v := (.int .i64 k)) rfl (by kernel_rfl) (by kernel_rfl) (by kernel_rfl) (fun _ _ _ h => h) (Or.inl ⟨by kernel_rfl, by intro w hSw; obtain ⟨hSw0, hSw1⟩ := hSw; go_simp⟩) hS0 ?_
                try simp only [Act.put, List.getElem_toArray, List.getElem_cons_zero, List.getElem_cons_succ, List.setIfInBounds_toArray, List.set_cons_zero, List.set_cons_succ]
                refine wpAnyH_take (i := 2) (v := (.pointer (some ⟨g, k * 4, none⟩))) rfl (by kernel_rfl) (by kernel_rfl) (by kernel_rfl) (fun _ _ _ h => h) (Or.inl ⟨by kernel_rfl, by intro w hSw; obtain ⟨hSw0, hSw1⟩ := hSw; go_simp⟩) hS0 ?_
                try simp only [Act.put, List.getElem_toArray, List.getElem_cons_zero, List.getElem_cons_succ, List.setIfInBounds_toArray, List.set_cons_zero, List.set_cons_succ]
                refine wpAnyH_take (i := 3) (v := (.pointer (some ⟨g, k * 4, none⟩))) rfl (by kernel_rfl) (by kernel_rfl) (by kernel_rfl) (fun _ _ _ h => h) (Or.inl ⟨by kernel_rfl, by intro w hSw; obtain ⟨hSw0, hSw1⟩ := hSw; go_simp⟩) hS0 ?_
                try simp only [Act.put, List.getElem_toArray, List.getElem_cons_zero, List.getElem_cons_succ, List.setIfInBounds_toArray, List.set_cons_zero, List.set_cons_succ]
                refine wpAnyH_take (i := 4) (v := (.int .i64 kd)) rfl (by kernel_rfl) (by kernel_rfl) (by kernel_rfl) (fun _ _ _ h => h) (Or.inl ⟨by kernel_rfl, by intro w hSw; obtain ⟨hSw0, hSw1⟩ := hSw; go_simp⟩) hS0 ?_
                try simp only [Act.put, List.getElem_toArray, List.getElem_cons_zero, List.getElem_cons_succ, List.setIfInBounds_toArray, List.set_cons_zero, List.set_cons_succ]
                refine wpAnyH_take (i := 5) (v := (.bool true)) rfl (by kernel_rfl) (by kernel_rfl) (by kernel_rfl) (fun _ _ _ h => h) (Or.inl ⟨by kernel_rfl, by intro w hSw; obtain ⟨hSw0, hSw1⟩ := hSw; go_simp⟩) hS0 ?_
                try simp only [Act.put, List.getElem_toArray, List.getElem_cons_zero, List.getElem_cons_succ, List.setIfInBounds_toArray, List.set_cons_zero, List.set_cons_succ]
                refine wpAnyH_take (i := 6) (v := (.bool true)) rfl (by kernel_rfl) (by kernel_rfl) (by kernel_rfl) (fun _ _ _ h => h) (Or.inl ⟨by kernel_rfl, by intro w hSw; obtain ⟨hSw0, hSw1⟩ := hSw; go_simp⟩) hS0 ?_
                try simp only [Act.put, List.getElem_toArray, List.getElem_cons_zero, List.getElem_cons_succ, List.setIfInBounds_toArray, List.set_cons_zero, List.set_cons_succ]
                refine wpAnyH_take (i := 7) (v := (.int .i64 t.length)) rfl (by kernel_rfl) (by kernel_rfl) (by kernel_rfl) (fun _ _ _ h => h) (Or.inl ⟨by kernel_rfl, by intro w hSw; obtain ⟨hSw0, hSw1⟩ := hSw; go_simp⟩) hS0 ?_
                try simp only [Act.put, List.getElem_toArray, List.getElem_cons_zero, List.getElem_cons_succ, List.setIfInBounds_toArray, List.set_cons_zero, List.set_cons_succ]
                refine wpAnyH_take (i := 8) (v := (sv s)) rfl (by kernel_rfl) (by kernel_rfl) (by kernel_rfl) (fun _ _ _ h => h) (Or.inl ⟨by kernel_rfl, by intro w hSw; obtain ⟨hSw0, hSw1⟩ := hSw; go_simp⟩) hS0 ?_
                try simp only [Act.put, List.getElem_toArray, List.getElem_cons_zero, List.getElem_cons_succ, List.setIfInBounds_toArray, List.set_cons_zero, List.set_cons_succ]
                refine wpAnyH_take (i := 9) (v := (.int .i64 s.length)) rfl (by kernel_rfl) (by kernel_rfl) (by kernel_rfl) (fun _ _ _ h => h) (Or.inl ⟨by kernel_rfl, by intro w hSw; obtain ⟨hSw0, hSw1⟩ := hSw; go_simp⟩) hS0 ?_
                try simp only [Act.put, List.getElem_toArray, List.getElem_cons_zero, List.getElem_cons_succ, List.setIfInBounds_toArray, List.set_cons_zero, List.set_cons_succ]
                refine wpAnyH_take (i := 10) (v := (.int .i64 a1)) rfl (by kernel_rfl) (by kernel_rfl) (by kernel_rfl) (fun _ _ _ h => h) (Or.inl ⟨by kernel_rfl, by intro w hSw; obtain ⟨hSw0, hSw1⟩ := hSw; go_simp⟩) hS0 ?_
                try simp only [Act.put, List.getElem_toArray, List.getElem_cons_zero, List.getElem_cons_succ, List.setIfInBounds_toArray, List.set_cons_zero, List.set_cons_succ]
                refine wpAnyH_take (i := 11) (v := (.int .i64 ((s.length : Int) - a1))) rfl (by kernel_rfl) (by kernel_rfl) (by kernel_rfl) (fun _ _ _ h => h) (Or.inl ⟨by kernel_rfl, by intro w hSw; obtain ⟨hSw0, hSw1⟩ := hSw; go_simp⟩) hS0 ?_
                try simp only [Act.put, List.getElem_toArray, List.getElem_cons_zero, List.getElem_cons_succ, List.setIfInBounds_toArray, List.set_cons_zero, List.set_cons_succ]
                refine wpAnyH_take (i := 12) (v := (.bool false)) rfl (by kernel_rfl) (by kernel_rfl) (by kernel_rfl) (fun _ _ _ h => h) (Or.inl ⟨by kernel_rfl, by intro w hSw; obtain ⟨hSw0, hSw1⟩ := hSw; go_simp⟩) hS0 ?_
                try simp only [Act.put, List.getElem_toArray, List.getElem_cons_zero, List.getElem_cons_succ, List.setIfInBounds_toArray, List.set_cons_zero, List.set_cons_succ]
                refine wpAnyH_take (i := 13) (v := (.bool false)) rfl (by kernel_rfl) (by kernel_rfl) (by kernel_rfl) (fun _ _ _ h => h) (Or.inl ⟨by kernel_rfl, by intro w hSw; obtain ⟨hSw0, hSw1⟩ := hSw; go_simp⟩) hS0 ?_
                try simp only [Act.put, List.getElem_toArray, List.getElem_cons_zero, List.getElem_cons_succ, List.setIfInBounds_toArray, List.set_cons_zero, List.set_cons_succ]
                refine wpAnyH_take (i := 14) (v := (sv s)) rfl (by kernel_rfl) (by kernel_rfl) (by kernel_rfl) (fun _ _ _ h => h) (Or.inl ⟨by kernel_rfl, by intro w hSw; obtain ⟨hSw0, hSw1⟩ := hSw; go_simp⟩) hS0 ?_
                try simp only [Act.put, List.getElem_toArray, List.getElem_cons_zero, List.getElem_cons_succ, List.setIfInBounds_toArray, List.set_cons_zero, List.set_cons_succ]
                refine wpAnyH_take (i := 15) (v := (.int .i64 a1)) rfl (by kernel_rfl) (by kernel_rfl) (by kernel_rfl) (fun _ _ _ h => h) (Or.inl ⟨by kernel_rfl, by intro w hSw; obtain ⟨hSw0, hSw1⟩ := hSw; go_simp⟩) hS0 ?_
                try simp only [Act.put, List.getElem_toArray, List.getElem_cons_zero, List.getElem_cons_succ, List.setIfInBounds_toArray, List.set_cons_zero, List.set_cons_succ]
                refine wpAnyH_take (i := 16) (v := (.int .i64 a1)) rfl (by kernel_rfl) (by kernel_rfl) (by kernel_rfl) (fun _ _ _ h => h) (Or.inl ⟨by kernel_rfl, by intro w hSw; obtain ⟨hSw0, hSw1⟩ := hSw; go_simp⟩) hS0 ?_
                try simp only [Act.put, List.getElem_toArray, List.getElem_cons_zero, List.getElem_cons_succ, List.setIfInBounds_toArray, List.set_cons_zero, List.set_cons_succ]
                refine wpAnyH_take (i := 17) (v := (.int .i64 t.length)) rfl (by kernel_rfl) (by kernel_rfl) (by kernel_rfl) (fun _ _ _ h => h) (Or.inl ⟨by kernel_rfl, by intro w hSw; obtain ⟨hSw0, hSw1⟩ := hSw; go_simp⟩) hS0 ?_
                try simp only [Act.put, List.getElem_toArray, List.getElem_cons_zero, List.getElem_cons_succ, List.setIfInBounds_toArray, List.set_cons_zero, List.set_cons_succ]
                refine wpAnyH_take (i := 18) (v := (.int .i64 ((a1 + t.length : Nat) : Int))) rfl (by kernel_rfl) (by kernel_rfl) (by kernel_rfl) (fun _ _ _ h => h) (Or.inl ⟨by kernel_rfl, by intro w hSw; obtain ⟨hSw0, hSw1⟩ := hSw; go_simp⟩) hS0 ?_
                try simp only [Act.put, List.getElem_toArray, List.getElem_cons_zero, List.getElem_cons_succ, List.setIfInBounds_toArray, List.set_cons_zero, List.set_cons_succ]
                refine wpAnyH_take (i := 19) (v := (sv t)) rfl (by kernel_rfl) (by kernel_rfl) (by kernel_rfl) (fun _ _ _ h => h) (Or.inl ⟨by kernel_rfl, by intro w hSw; obtain ⟨hSw0, hSw1⟩ := hSw; go_simp⟩) hS0 ?_
                try simp only [Act.put, List.getElem_toArray, List.getElem_cons_zero, List.getElem_cons_succ, List.setIfInBounds_toArray, List.set_cons_zero, List.set_cons_succ]
                refine wpAnyH_take (i := 20) (v := (.slice (some ⟨g, 0, none⟩) l.length c)) rfl (by kernel_rfl) (by kernel_rfl) (by kernel_rfl) (fun _ _ _ h => h) (Or.inl ⟨by kernel_rfl, by intro w hSw; obtain ⟨hSw0, hSw1⟩ := hSw; go_simp⟩) hS0 ?_
                try simp only [Act.put, List.getElem_toArray, List.getElem_cons_zero, List.getElem_cons_succ, List.setIfInBounds_toArray, List.set_cons_zero, List.set_cons_succ]
                refine wpAnyH_take (i := 21) (v := (.int .i64 k)) rfl (by kernel_rfl) (by kernel_rfl) (by kernel_rfl) (fun _ _ _ h => h) (Or.inl ⟨by kernel_rfl, by intro w hSw; obtain ⟨hSw0, hSw1⟩ := hSw; go_simp⟩) hS0 ?_
                try simp only [Act.put, List.getElem_toArray, List.getElem_cons_zero, List.getElem_cons_succ, List.setIfInBounds_toArray, List.set_cons_zero, List.set_cons_succ]
                refine wpAnyH_take (i := 22) (v := (.pointer (some ⟨g, k * 4, none⟩))) rfl (by kernel_rfl) (by kernel_rfl) (by kernel_rfl) (fun _ _ _ h => h) (Or.inl ⟨by kernel_rfl, by intro w hSw; obtain ⟨hSw0, hSw1⟩ := hSw; go_simp⟩) hS0 ?_
                try simp only [Act.put, List.getElem_toArray, List.getElem_cons_zero, List.getElem_cons_succ, List.setIfInBounds_toArray, List.set_cons_zero, List.set_cons_succ]
                refine wpAnyH_take (i := 23) (v := (.pointer (some ⟨g, k * 4 + 1, none⟩))) rfl (by kernel_rfl) (by kernel_rfl) (by kernel_rfl) (fun _ _ _ h => h) (Or.inl ⟨by kernel_rfl, by intro w hSw; obtain ⟨hSw0, hSw1⟩ := hSw; go_simp⟩) hS0 ?_
                try simp only [Act.put, List.getElem_toArray, List.getElem_cons_zero, List.getElem_cons_succ, List.setIfInBounds_toArray, List.set_cons_zero, List.set_cons_succ]
                refine wpAnyH_take (i := 24) (v := (sv t)) rfl (by kernel_rfl) (by kernel_rfl) (by kernel_rfl) (fun _ _ _ h => h) (Or.inl ⟨by kernel_rfl, by intro w hSw; obtain ⟨hSw0, hSw1⟩ := hSw; go_simp⟩) hS0 ?_
                try simp only [Act.put, List.getElem_toArray, List.getElem_cons_zero, List.getElem_cons_succ, List.setIfInBounds_toArray, List.set_cons_zero, List.set_cons_succ]
                refine wpAnyH_take (i := 25) (v := (.bool false)) rfl (by kernel_rfl) (by kernel_rfl) (by kernel_rfl) (fun _ _ _ h => h) (Or.inl ⟨by kernel_rfl, by intro w hSw; obtain ⟨hSw0, hSw1⟩ := hSw; go_simp⟩) hS0 ?_
                try simp only [Act.put, List.getElem_toArray, List.getElem_cons_zero, List.getElem_cons_succ, List.setIfInBounds_toArray, List.set_cons_zero, List.set_cons_succ]
                refine wpAnyH_take (i := 26) (v := (.bool false)) rfl (by kernel_rfl) (by kernel_rfl) (by kernel_rfl) (fun _ _ _ h => h) (Or.inl ⟨by kernel_rfl, by intro w hSw; obtain ⟨hSw0, hSw1⟩ := hSw; go_simp⟩) hS0 ?_
                try simp only [Act.put, List.getElem_toArray, List.getElem_cons_zero, List.getElem_cons_succ, List.setIfInBounds_toArray, List.set_cons_zero, List.set_cons_succ]
                refine wpAnyH_take (i := 27) (v := (.bool false)) rfl (by kernel_rfl) (by kernel_rfl) (by kernel_rfl) (fun _ _ _ h => h) (Or.inl ⟨by kernel_rfl, by intro w hSw; obtain ⟨hSw0, hSw1⟩ := hSw; go_simp⟩) hS0 ?_
                try simp only [Act.put, List.getElem_toArray, List.getElem_cons_zero, List.getElem_cons_succ, List.setIfInBounds_toArray, List.set_cons_zero, List.set_cons_succ]
                refine wpAnyH_done (by kernel_rfl) ?_ _
                go_wp2_with fail
                go_roundw
                case rel => first | exact FIN.out _ hS1 | ((repeat apply Exists.intro); exact ⟨FIN.out _ hS1, rfl⟩)
                case measure => simp [intOf]; omega
      · have hk2 : k = l.length := by omega
        have ha2 : a = s.length := by omega
        subst hk2 ha2
        have hB : Below w.heap.size w wr := hB3.trans (hbr.mono hB3.size)
        have hlp : (0 : Int) < l.length := by omega
        clear hcase
        go_wp2_with fail
        go_ret
        exact ⟨rfl, hB⟩
end Go.Proofs.YtpgngegdflbahaaDoor
