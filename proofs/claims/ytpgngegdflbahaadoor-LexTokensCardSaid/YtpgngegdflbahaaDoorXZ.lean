/- The contract of the reference's Lex. -/
import Derived.Test.YtpgngegdflbahaaDoorXU
set_option linter.unusedVariables false
namespace Go.Proofs.YtpgngegdflbahaaDoor
open Go.RowKit

theorem diag_zero {w : World} {b : Nat} (h : w.heap[b]? = some (.cells #[.int .i64 0, .int .i64 0, .int .i64 0, .int .i64 0] 26 (0, 0))) :
    (w.cell? ⟨b, 0, none⟩ = some (.int .i64 0) ∧ w.cell? ⟨b, 1, none⟩ = some (.int .i64 0) ∧ w.cell? ⟨b, 2, none⟩ = some (.int .i64 0) ∧ w.cell? ⟨b, 3, none⟩ = some (.int .i64 0)) ∧
    (w.frozen? ⟨b, 0, none⟩ = false ∧ w.frozen? ⟨b, 1, none⟩ = false ∧ w.frozen? ⟨b, 2, none⟩ = false ∧ w.frozen? ⟨b, 3, none⟩ = false) :=
  ⟨⟨(cell_of_row _ _ _ _ _ (0, 0) h).trans rfl, (cell_of_row _ _ _ _ _ (0, 0) h).trans rfl, (cell_of_row _ _ _ _ _ (0, 0) h).trans rfl, (cell_of_row _ _ _ _ _ (0, 0) h).trans rfl⟩, block_free h 0, block_free h 1, block_free h 2, block_free h 3⟩
theorem extract_tail {s : Bt} (a : Nat) : ByteArray.extract ⟨s.toArray⟩ a s.length = ⟨(s.drop a).toArray⟩ := by
  have h := extract_sv s a s.length
  rw [List.take_length] at h
  injection h
/-- What a round of the reference's Lex begins with. -/
structure RLexR (s : Bt) (ans : List TokD × (Nat × Nat × Int)) (w0 wr : World) (f a : Nat) (p : Nat × Nat) (out : List TokD) (v : Value) : Prop where
  row : wr.ownsRow w0.heap.size 32 4 v out.length (tokCells out)
  le : a ≤ s.length
  fuel : s.length - a < f
  eq : lexF f (s.drop a) p out = ans
  b1 : p.1 ≤ 1 + a
  b2 : p.2 ≤ 1 + a
  b3 : 1 ≤ p.2
  outl : out.length ≤ 8192
  bel : Below w0.heap.size w0 wr

set_option maxRecDepth 100000 in
set_option maxHeartbeats 4000000 in
theorem rlex_any (w : World) (s : Bt) : Calls Tryd.prog 10 #[sv s] w fun e w' => LexPost (lexL s) w e w' := by
  have hsz := sv_size s
  by_cases hlong : 65536 < s.length
  · have ha : lexL s = ([], (1, 1, 2)) := by unfold lexL; rw [if_pos hlong]
    rw [ha]
    go_enter Tryd.func10, Tryd.ntmps10
    go_wp2_with fail
    refine bodyPost_ret (results_tmp_cell rfl _ _ w.heap.size _ _ _ _ rfl (heap_alloc_new w _) Tryd.underlying26 rfl (by kernel_rfl)) rfl ?_
    exact ⟨_, 0, rfl, World.ownsRow_nil _ _ _ _, (Below.refl _ _).alloc (Nat.le_refl _) _⟩
  · have ha : lexL s = lexF (s.length + 1) s (1, 1) [] := by unfold lexL; rw [if_neg hlong]
    rw [ha]
    clear ha
    generalize hans : lexF (s.length + 1) s (1, 1) [] = ans
    have HANS := hid hans
    clear hans
    have hd0 := heap_alloc_new w (.cells #[.int .i64 0, .int .i64 0, .int .i64 0, .int .i64 0] 26)
    have hb0 : Below w.heap.size w (w.alloc (.cells #[.int .i64 0, .int .i64 0, .int .i64 0, .int .i64 0] 26)) := (Below.refl _ _).alloc (Nat.le_refl _) _
    have hs0 : (w.alloc (.cells #[.int .i64 0, .int .i64 0, .int .i64 0, .int .i64 0] 26)).heap.size = w.heap.size + 1 := by simp
    go_enter Tryd.func10, Tryd.ntmps10
    go_wp2_with fail
    generalize w.alloc (.cells #[.int .i64 0, .int .i64 0, .int .i64 0, .int .i64 0] 26) = w0 at *
    have HD0 := hid hd0
    clear hd0
    go_loopw [4, 5, 6, 7, 8, 9, 10, 11, 12] (fun v4 v5 v6 v7 v8 v9 v10 v11 v12 wr => ∃ (f a : Nat) (p : Nat × Nat) (out : List TokD), v5 = .int .i64 p.1 ∧ v6 = .int .i64 p.2 ∧ v7 = .int .i64 a ∧ RLexR s ans w0 wr f a p out v4) (fun _ _ _ v7 _ _ _ _ _ _ => s.length + 1 - (intOf v7).toNat)
    case atStart => exact ⟨s.length + 1, 0, (1, 1), [], rfl, rfl, rfl, ⟨World.ownsRow_nil _ _ _ _, by omega, by omega, HANS.out, by omega, by omega, by omega, by simp, Below.refl _ _⟩⟩
    case round =>
      obtain ⟨f, a, p, out, rfl, rfl, rfl, hR⟩ := hrel
      obtain ⟨f', rfl⟩ : ∃ f', f = f' + 1 := ⟨f - 1, by have := hR.fuel; omega⟩
      obtain ⟨hrow, hle, hfuel, heq, hb1, hb2, hb3, houtl, hbel⟩ := hR
      rw [lexF] at heq
      obtain ⟨x, hx⟩ : ∃ x, x = s.drop a := ⟨_, rfl⟩
      have hxl : x.length = s.length - a := by rw [hx, List.length_drop]
      have hsk : skipL x ≤ x.length := skipG_le false x
      have hexa : ByteArray.extract ⟨s.toArray⟩ a s.length = ⟨x.toArray⟩ := by rw [extract_tail, hx]
      have hget : ∀ i (h1 : a ≤ i) (h2 : i < s.length), s[i] = x[i - a]'(by omega) := by
        intro i h1 h2
        subst hx
        rw [List.getElem_drop]
        congr 1; omega
      have hy : x.drop (skipL x) = s.drop (a + skipL x) := by rw [hx, List.drop_drop]
      rw [← hx] at heq
      have HX := hid hx
      clear hx
      obtain ⟨A, c, rfl, hoc⟩ := own_slice hrow
      unfold maxLen at hoc
      have HROW := hid hrow
      have HEQ := hid heq
      have HGET := hid hget
      have HY := hid hy
      clear hrow heq hget hy
      go_wp2_with fail
      refine (rblank_any _ x (by omega)).mono ?_
      rintro e wr ⟨rfl, rfl⟩
      generalize hm : skipL x = m at *
      clear hm
      clear hexa
      obtain ⟨q, hq⟩ : ∃ q, q = advL p (x.take m) := ⟨_, rfl⟩
      have hql := advL_le2 (x.take m) hb3
      rw [← hq] at hql
      have HQ := hid hq
      clear hq
      rw [List.length_take, Nat.min_eq_left hsk] at hql
      go_wp2_with fail
      go_loop [5, 6, 9] (fun v5 v6 v9 => ∃ i : Nat, v9 = .int .i64 i ∧ a ≤ i ∧ i ≤ a + m ∧ v5 = .int .i64 (advL p (x.take (i - a))).1 ∧ v6 = .int .i64 (advL p (x.take (i - a))).2) (fun _ _ v9 => a + m - (intOf v9).toNat)
      case atStart => exact ⟨a, rfl, by omega, by omega, by rw [Nat.sub_self]; rfl, by rw [Nat.sub_self]; rfl⟩
      case round =>
        obtain ⟨i, rfl, hi1, hi2, rfl, rfl⟩ := hrel
        by_cases hlt : i < a + m
        · have hix := sv_index s i (by omega)
          rw [HGET.out i hi1 (by omega)] at hix
          have hstep := advL_take (p := p) (s := x) (k := i - a) (by omega)
          rw [show i - a + 1 = i + 1 - a by omega] at hstep
          have hbd := advL_le2 (x.take (i - a)) hb3
          rw [List.length_take, Nat.min_eq_left (by omega)] at hbd
          generalize x[i - a] = X at *
          generalize advL p (x.take (i - a)) = r at *
          obtain ⟨r1, r2⟩ := r
          simp only at hbd ⊢
          unfold advB at hstep
          by_cases h10 : X.toNat = 10
          · rw [if_pos h10] at hstep
            have key : ∃ i_1 : Nat, Value.int .i64 ((i + 1 : Nat) : Int) = .int .i64 i_1 ∧ a ≤ i_1 ∧ i_1 ≤ a + m ∧ Value.int .i64 ((r1 + 1 : Nat) : Int) = .int .i64 (advL p (x.take (i_1 - a))).1 ∧ Value.int .i64 ((1 : Nat) : Int) = .int .i64 (advL p (x.take (i_1 - a))).2 :=
              ⟨i + 1, rfl, by omega, by omega, by rw [hstep], by rw [hstep]⟩
            have KEY := hid key
            clear key hstep
            go_wp2_with fail
            go_round
            case rel => exact KEY.out
            case measure => simp [intOf]; omega
          · rw [if_neg h10] at hstep
            have key : ∃ i_1 : Nat, Value.int .i64 ((i + 1 : Nat) : Int) = .int .i64 i_1 ∧ a ≤ i_1 ∧ i_1 ≤ a + m ∧ Value.int .i64 (r1 : Int) = .int .i64 (advL p (x.take (i_1 - a))).1 ∧ Value.int .i64 ((r2 + 1 : Nat) : Int) = .int .i64 (advL p (x.take (i_1 - a))).2 :=
              ⟨i + 1, rfl, by omega, by omega, by rw [hstep], by rw [hstep]⟩
            have KEY := hid key
            clear key hstep
            go_wp2_with fail
            go_round
            case rel => exact KEY.out
            case measure => simp [intOf]; omega
        · have him : i = a + m := by omega
          have hia : i - a = m := by omega
          rw [hia, ← HQ.out]
          have hlt2 : ¬ (i : Int) < (a : Int) + m := by omega
          clear hia him hi1 hi2 hlt
          obtain ⟨q1, q2⟩ := q
          simp only at hql ⊢
          have heq := HEQ.out
          have hhq := HQ.out
          rw [← hhq, HY.out] at heq
          simp only at heq
          have HEQ2 := hid heq
          have HQ2 := hid hhq
          clear heq hhq HEQ HQ
          have HBEL := hid hbel
          obtain ⟨at_, hat⟩ : ∃ b : Nat, b = a + m := ⟨_, rfl⟩
          have hyl : (s.drop at_).length = s.length - at_ := by rw [List.length_drop]
          have hexb : ByteArray.extract ⟨s.toArray⟩ at_ s.length = ⟨(s.drop at_).toArray⟩ := extract_tail at_
          rw [← hat] at HEQ2
          by_cases hend : at_ = s.length
          · have hae : (s.length : Int) ≤ (a : Int) + m := by omega
            have hr := HEQ2.out
            have hnil : s.drop at_ = [] := by rw [hend, List.drop_length]
            rw [hnil, if_pos rfl] at hr
            have HR := hid hr
            have hsl8 : Sl (wr.alloc (.cells #[.int .i64 0, sv [], .int .i64 (q1 : Nat), .int .i64 (q2 : Nat)] 32)) (wr.heap.size + 1) 4 (.slice (some ⟨wr.heap.size, 0, none⟩) 1 1) (tokV ⟨0, [], q1, q2⟩) := sl_new wr _ _ 4 1 rfl (by decide)
            have hrow8 := HROW.out.alloc (.cells #[.int .i64 0, sv [], .int .i64 (q1 : Nat), .int .i64 (q2 : Nat)] 32)
            have h63 : out.length * 4 + (tokV ⟨0, [], q1, q2⟩).length ≤ maxLen := by show out.length * 4 + 4 ≤ maxLen; unfold maxLen; omega
            have hbytes : (out.length * 4 + (tokV ⟨0, [], q1, q2⟩).length) * 40 ≤ 140737488355328 := by show (out.length * 4 + 4) * 40 ≤ _; omega
            have hB8 := HBEL.out.alloc HBEL.out.size (.cells #[.int .i64 0, sv [], .int .i64 (q1 : Nat), .int .i64 (q2 : Nat)] 32)
            clear hr hnil hexb hyl HEQ2 HGET HY HX
            go_wp2_with (at_builtin; refine wpList_app rfl (.tmp 44) (.tmp 48) _ rfl w0.heap.size el_tok _ _ rfl rfl hrow8 hsl8 (tok_one ⟨0, [], q1, q2⟩) h63 hbytes (le_alloc hbel.size _) (fun v' w9 n' hown9 hg9 hbk9 => ?_); have hb9 := below_app hB8 hrow8 hg9 (Nat.le_refl _) (le_alloc hbel.size _); have hd9 := block_turn HD0.out (Turn.of_below (F := fun _ => False) hb9) id; obtain ⟨⟨e0, e1, e2, e3⟩, g0, g1, g2, g3⟩ := diag_zero hd9; clear hg9 hbk9 hrow8 hsl8)
            refine bodyPost_ret (results_tmp_cell rfl _ _ w.heap.size _ _ _ _ rfl (set4_block hd9 _ _ _ _) Tryd.underlying26 rfl (by kernel_rfl)) rfl ?_
            have hr := HR.out
            have t9 := set4_turn w9 w.heap.size (.int .i64 0) (.int .i64 0) (.int .i64 0) (.int .i64 0)
            have hown9' := own_turn hown9 t9 (fun g hg h => by have := (hown9.lt g hg).1; omega)
            have hfin := below_set4 (hb0.trans (hb9.mono (by omega))) (.int .i64 0) (.int .i64 0) (.int .i64 0) (.int .i64 0)
            rw [← hr]
            refine ⟨v', n', rfl, ?_, hfin⟩
            simp only [tokCells_snoc]
            exact own_base hown9' (by omega)
          · have hae : ¬ (s.length : Int) ≤ (a : Int) + m := by omega
            have hne : s.drop at_ ≠ [] := by intro h; rw [h] at hyl; simp at hyl; omega
            have hr := HEQ2.out
            rw [if_neg hne] at hr
            have HR := hid hr
            have hyl2 : 1 ≤ (s.drop at_).length := by omega
            have hnle : ∀ kd t n, nextT (s.drop at_) = .inr (kd, t, n) → 1 ≤ n ∧ n ≤ s.length - at_ ∧ advL (q1, q2) ((s.drop at_).take n) = (q1, q2 + n) := by
              intro kd t n h
              have h1 := nextT_le h
              refine ⟨h1.1, by rw [hyl] at h1; exact h1.2, ?_⟩
              rw [advL_noline _ (nextT_noline h), List.length_take, Nat.min_eq_left h1.2]
            have hnerr : ∀ e, nextT (s.drop at_) = .inl e → e ≠ 0 := fun e h => nextT_err h
            have HNLE := hid hnle
            have HDD : ∀ n, (s.drop at_).drop n = s.drop (at_ + n) := fun n => by rw [List.drop_drop]
            have HDR := hid HDD
            have hcast : ((at_ : Nat) : Int) = (a : Int) + m := by omega
            clear hr hne HEQ2 HGET HY HX hnle HDD
            generalize s.drop at_ = y at *
            rw [hat] at hexb
            have hT := rtoken_any wr y (by omega) hyl2
            have HT := hid hT
            clear hT hyl2 hyl
            go_wp2_with fail
            refine HT.out.mono ?_
            rintro e w5 ⟨rfl, hb5⟩
            clear HT hexb
            have hB5 := HBEL.out.trans (hb5.mono hbel.size)
            have hrow5 := own_below HROW.out hb5
            have hd5 := block_turn HD0.out (Turn.of_below (F := fun _ => False) hB5) id
            clear HROW hb5
            cases hn : nextT y with
            | inl e =>
              have hr := HR.out
              rw [hn] at hr
              simp only at hr
              have HR2 := hid hr
              have he := hnerr e hn
              have heb : (e == 0) = false := by rw [beq_eq_false_iff_ne]; exact he
              have hB6 := hB5.alloc hB5.size (.cells #[.int .i64 0, sv [], .int .i64 0, .int .i64 0] 32)
              have hd6 := block_turn HD0.out (Turn.of_below (F := fun _ => False) hB6) id
              obtain ⟨⟨e0, e1, e2, e3⟩, g0, g1, g2, g3⟩ := diag_zero hd6
              unfold tokR
              simp only []
              clear hr HR HNLE hnerr hn hrow5 hd5 HDR
              go_wp2_with fail
              refine bodyPost_ret (results_tmp_cell rfl _ _ w.heap.size _ _ _ _ rfl (set4_block hd6 _ _ _ _) Tryd.underlying26 rfl (by kernel_rfl)) rfl ?_
              rw [← HR2.out]
              exact ⟨_, 0, rfl, World.ownsRow_nil _ _ _ _, below_set4 (hb0.trans (hB6.mono (by omega))) _ _ _ _⟩
            | inr xx =>
              obtain ⟨kd, t, n⟩ := xx
              have hr := HR.out
              rw [hn] at hr
              simp only at hr
              obtain ⟨n1, n2, n3⟩ := HNLE.out kd t n hn
              unfold tokR
              simp only []
              by_cases h8 : out.length = 8192
              · rw [if_pos h8] at hr
                have HR2 := hid hr
                have h8b : ((out.length : Int) == 8192) = true := by rw [beq_iff_eq]; omega
                have hB6 := hB5.alloc hB5.size (.cells #[.int .i64 kd, sv t, .int .i64 0, .int .i64 0] 32)
                have hd6 := block_turn HD0.out (Turn.of_below (F := fun _ => False) hB6) id
                obtain ⟨⟨e0, e1, e2, e3⟩, g0, g1, g2, g3⟩ := diag_zero hd6
                clear hr HR HNLE hnerr hn hrow5 hd5 HDR n3 h8
                go_wp2_with fail
                refine bodyPost_ret (results_tmp_cell rfl _ _ w.heap.size _ _ _ _ rfl (set4_block hd6 _ _ _ _) Tryd.underlying26 rfl (by kernel_rfl)) rfl ?_
                rw [← HR2.out]
                exact ⟨_, 0, rfl, World.ownsRow_nil _ _ _ _, below_set4 (hb0.trans (hB6.mono (by omega))) _ _ _ _⟩
              · rw [if_neg h8, n3, HDR.out] at hr
                have h8b : ((out.length : Int) == 8192) = false := by rw [beq_eq_false_iff_ne]; omega
                have hB6 := hB5.alloc hB5.size (.cells #[.int .i64 kd, sv t, .int .i64 (q1 : Nat), .int .i64 (q2 : Nat)] 32)
                have hB7 := hB6.alloc hB6.size (.cells #[.int .i64 kd, sv t, .int .i64 (q1 : Nat), .int .i64 (q2 : Nat)] 32)
                have hrow8 := (hrow5.alloc (.cells #[.int .i64 kd, sv t, .int .i64 (q1 : Nat), .int .i64 (q2 : Nat)] 32)).alloc (.cells #[.int .i64 kd, sv t, .int .i64 (q1 : Nat), .int .i64 (q2 : Nat)] 32)
                have hsl8 : Sl ((w5.alloc (.cells #[.int .i64 kd, sv t, .int .i64 (q1 : Nat), .int .i64 (q2 : Nat)] 32)).alloc (.cells #[.int .i64 kd, sv t, .int .i64 (q1 : Nat), .int .i64 (q2 : Nat)] 32)) ((w5.alloc (.cells #[.int .i64 kd, sv t, .int .i64 (q1 : Nat), .int .i64 (q2 : Nat)] 32)).heap.size + 1) 4 (.slice (some ⟨(w5.alloc (.cells #[.int .i64 kd, sv t, .int .i64 (q1 : Nat), .int .i64 (q2 : Nat)] 32)).heap.size, 0, none⟩) 1 1) (tokV ⟨kd, t, q1, q2⟩) := sl_new _ _ _ 4 1 rfl (by decide)
                have s6 : (w5.alloc (.cells #[.int .i64 kd, sv t, .int .i64 (q1 : Nat), .int .i64 (q2 : Nat)] 32)).heap.size = w5.heap.size + 1 := by simp
                rw [s6] at hsl8
                have h63 : out.length * 4 + (tokV ⟨kd, t, q1, q2⟩).length ≤ maxLen := by show out.length * 4 + 4 ≤ maxLen; unfold maxLen; omega
                have hbytes : (out.length * 4 + (tokV ⟨kd, t, q1, q2⟩).length) * 40 ≤ 140737488355328 := by show (out.length * 4 + 4) * 40 ≤ _; omega
                have key : ∀ v' w9 n', w9.ownsRow w0.heap.size 32 4 v' n' (tokCells out ++ tokV ⟨kd, t, q1, q2⟩) → Below w0.heap.size w0 w9 → RLexR s ans w0 w9 f' (at_ + n) (q1, q2 + n) (out ++ [⟨kd, t, q1, q2⟩]) v' := by
                  intro v' w9 n' h1 h2
                  have h3 : n' = (out ++ [(⟨kd, t, q1, q2⟩ : TokD)]).length := by
                    have h4 := h1.1
                    rw [List.length_append, tokCells_length] at h4
                    have h5 : (tokV ⟨kd, t, q1, q2⟩).length = 4 := rfl
                    rw [List.length_append, List.length_singleton]; omega
                  subst h3
                  rw [← tokCells_snoc] at h1
                  exact ⟨h1, by omega, by omega, hr, by simp only; omega, by simp only; omega, by simp only; omega, by simp; omega, h2⟩
                have KEY := hid key
                have hcm : (a : Int) + m + n = ((at_ + n : Nat) : Int) := by omega
                have HCM := hid hcm
                have hw1 : IntKind.i64.wrap ((a : Int) + m + n) = (a : Int) + m + n := by rw [i64_wrap]; exact wrap64_id (by unfold In64; omega)
                have hw2 : IntKind.i64.wrap ((q2 : Int) + n) = (q2 : Int) + n := by rw [i64_wrap]; exact wrap64_id (by unfold In64; omega)
                clear hcm
                clear hr HR HNLE hnerr hn hd5 HDR n3 h8 key
                go_wp2_with (at_builtin; refine wpList_app rfl (.tmp 76) (.tmp 78) _ rfl w0.heap.size el_tok _ _ rfl rfl hrow8 hsl8 (tok_one ⟨kd, t, q1, q2⟩) h63 hbytes hB7.size (fun v' w9 n' hown9 hg9 hbk9 => ?_); have hb9 := below_app hB7 hrow8 hg9 (Nat.le_refl _) hB7.size; have hK := hid (KEY.out v' w9 n' hown9 hb9); clear hg9 hbk9 hrow8 hsl8 hown9)
                go_wp2_with fail
                go_roundw
                case rel => exact ⟨f', at_ + n, (q1, q2 + n), _, rfl, rfl, by rw [← HCM.out], hK.out⟩
                case measure => simp [intOf]; omega
end Go.Proofs.YtpgngegdflbahaaDoor
