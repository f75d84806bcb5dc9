/- ZD, ZE, MQ, GL -/
import Derived.Test.YtbpedjkebemhnaaGreatDoorSB09
import Derived.Deep.RegionHeld
import Derived.WalkKit
import Derived.Test.YtbpedjkebemhnaaGreatDoorSB01
import Derived.Test.YtbpedjkebemhnaaGreatDoorSB08
set_option linter.unusedSimpArgs false
set_option linter.unusedVariables false
section
/- What is printed of expressions and modules, piece by piece. -/
set_option linter.unusedVariables false
namespace Go.Proofs.YtbpedjkebemhnaaGreatDoor

theorem text_flat (s : Sg) (l : List Sg) : textP (flatS (s :: l)) = textP s.flat ++ textP (flatS l) := by
  unfold flatS
  rw [List.flatMap_cons, textP_append]
theorem text_flat_nil : textP (flatS []) = [] := rfl
theorem cnt_flat (s : Sg) (l : List Sg) : cntP (flatS (s :: l)) = cntP s.flat + cntP (flatS l) := by
  unfold flatS
  rw [List.flatMap_cons, cntP_append]
theorem cnt_flat_nil : cntP (flatS []) = 0 := rfl
theorem cnt_u (l : List Pc) : cntP (Sg.u l).flat = cntP l := rfl
theorem cnt_v (l : List Pc) : cntP (Sg.v l).flat = cntP l := rfl
theorem cnt_e (l : List Pc) : cntP (Sg.e l).flat = cntP l := rfl
theorem cnt_w (k : Int) (t : Bt) : cntP (Sg.w (.tok k t)).flat = 1 := by unfold cntP toksP; simp [Sg.flat, Pc.isTok]
theorem cnt_p (k : Int) (t : Bt) : cntP (Sg.p (.tok k t)).flat = 1 := by unfold cntP toksP; simp [Sg.flat, Pc.isTok]
theorem cnt_sp : cntP (Sg.p .sp).flat = 0 := rfl
theorem text_u (l : List Pc) : textP (Sg.u l).flat = textP l := rfl
theorem text_v (l : List Pc) : textP (Sg.v l).flat = textP l := rfl
theorem text_e (l : List Pc) : textP (Sg.e l).flat = textP l := rfl
theorem text_w (k : Int) (t : Bt) (h : k ≠ 4) : textP (Sg.w (.tok k t)).flat = t := by
  show textP [Pc.tok k t] = t
  rw [textP_cons, textP_nil, List.append_nil]
  show writeT (k, t) = t
  unfold writeT; rw [if_neg h]
theorem text_p1 (t : Bt) : textP (Sg.p (.tok 1 t)).flat = t := by show textP [Pc.tok 1 t] = t; rw [textP_cons, textP_nil, List.append_nil]; rfl
theorem text_p2 (t : Bt) : textP (Sg.p (.tok 2 t)).flat = t := by show textP [Pc.tok 2 t] = t; rw [textP_cons, textP_nil, List.append_nil]; rfl
theorem text_p3 (t : Bt) : textP (Sg.p (.tok 3 t)).flat = t := by show textP [Pc.tok 3 t] = t; rw [textP_cons, textP_nil, List.append_nil]; rfl
theorem text_p4 (t : Bt) : textP (Sg.p (.tok 4 t)).flat = quoteW t := by show textP [Pc.tok 4 t] = _; rw [textP_cons, textP_nil, List.append_nil]; rfl
theorem text_p5 (t : Bt) : textP (Sg.p (.tok 5 t)).flat = t := by show textP [Pc.tok 5 t] = t; rw [textP_cons, textP_nil, List.append_nil]; rfl
theorem text_sp : textP (Sg.p .sp).flat = [32] := rfl
/-- A type behind a colon, piece by piece. -/
def noteP (l : List TyD) (i : Nat) : List Pc := match l[i]? with | some t => flatS [.p (.tok 5 [58]), .p .sp, .u (pcsT t)] | none => []
def opK (t : Bt) : Int := if t ∈ wordsL then 2 else 5
/-- A node, of its own part and what is within. -/
def segsN (k : Int) (text : Bt) (n : Int) (types : List TyD) (names : List Bt) (s : List (List Pc)) : List Sg :=
  if k = 7 then [.u (s.getD 0 []), .p (.tok 5 [40]), .u (s.getD 1 []), .p (.tok 5 [41])]
  else if k = 9 then [.u (s.getD 0 []), .p (.tok 5 [46]), .p (.tok 1 text)]
  else if k = 10 then [.p (.tok 5 [123]), .u (s.getD 0 []), .p .sp, .p (.tok 2 [119, 105, 116, 104]), .p .sp, .p (.tok 1 text), .p (.tok 5 [58]), .p .sp, .u (s.getD 1 []), .p (.tok 5 [125])]
  else if k = 8 then [.p (.tok 5 [123]), .e (joinP commaP (List.zipWith fieldP names s)), .p (.tok 5 [125])]
  else if k = 17 then [.p (.tok 2 [112, 114, 105, 110, 116]), .p (.tok 5 [40]), .u (s.getD 0 []), .p (.tok 5 [41])]
  else if k = 5 then [.p (.tok 5 [40]), .p (.tok 2 [108, 101, 116]), .p .sp, .p (.tok 1 text), .v (noteP types 0), .p .sp, .p (.tok 5 [61]), .p .sp, .u (s.getD 0 []), .p (.tok 5 [59]), .p .sp, .u (s.getD 1 []), .p (.tok 5 [41])]
  else if k = 6 then [.p (.tok 5 [40]), .p (.tok 2 [102, 110]), .p .sp, .p (.tok 5 [40]), .p (.tok 1 text), .v (noteP types 0), .p (.tok 5 [41]), .v (noteP types 1), .p .sp, .p (.tok 5 [61, 62]), .p .sp, .u (s.getD 0 []), .p (.tok 5 [41])]
  else if k = 11 then [.p (.tok 5 [40]), .p (.tok 2 [105, 102]), .p .sp, .u (s.getD 0 []), .p .sp, .p (.tok 2 [116, 104, 101, 110]), .p .sp, .u (s.getD 1 []), .p .sp, .p (.tok 2 [101, 108, 115, 101]), .p .sp, .u (s.getD 2 []), .p (.tok 5 [41])]
  else if k = 12 then [.p (.tok 5 [40]), .u (s.getD 0 []), .p .sp, .p (.tok 2 [105, 115]), .p .sp, .p (.tok 2 (tagsL.getD n.toNat [])), .p (.tok 5 [41])]
  else if k = 13 then [.p (.tok 5 [40]), .u (s.getD 0 []), .p .sp, .p (.tok 2 [97, 115]), .p .sp, .u ((types.map pcsT).getD 0 []), .p (.tok 5 [41])]
  else if k = 14 then [.p (.tok 5 [40]), .u (s.getD 0 []), .p .sp, .w (.tok (opK text) text), .p .sp, .u (s.getD 1 []), .p (.tok 5 [41])]
  else if k = 15 then [.p (.tok 5 [40]), .p (.tok 2 [110, 111, 116]), .p .sp, .u (s.getD 0 []), .p (.tok 5 [41])]
  else if k = 16 then [.p (.tok 5 [40]), .p (.tok 5 [45]), .u (s.getD 0 []), .p (.tok 5 [41])]
  else if k = 0 then [.p (.tok 3 (Lib.itoa n))]
  else if k = 1 then [.p (.tok 4 text)]
  else if k = 2 then [.p (.tok 2 (if n = 0 then [102, 97, 108, 115, 101] else [116, 114, 117, 101]))]
  else if k = 3 then [.p (.tok 2 [110, 117, 108, 108])]
  else if k = 18 then [.p (.tok 2 [114, 101, 97, 100]), .p (.tok 5 [40]), .p (.tok 5 [41])]
  else if k = 19 then [.p (.tok 1 text), .p (.tok 5 [91]), .u (joinP commaP (types.map pcsT)), .p (.tok 5 [93])]
  else [.p (.tok 1 text)]
mutual
def pcsN : NoD → List Pc
  | .mk k text n _ _ types names kids => flatS (segsN k text n types names (pcsNs kids))
def pcsNs : List NoD → List (List Pc)
  | [] => []
  | x :: l => pcsN x :: pcsNs l
end
theorem pcsNs_map : ∀ l : List NoD, pcsNs l = l.map pcsN
  | [] => by simp [pcsNs]
  | t :: l => by simp [pcsNs, pcsNs_map l]
theorem note_vp {l : List TyD} (h : ∀ t ∈ l, writtenB 16 t = true) (i : Nat) : VP (noteP l i) ∧ textP (noteP l i) = noteS l i ∧ cntP (noteP l i) ≤ 6 * cntTs l := by
  unfold noteP noteS
  cases hl : l[i]? with
  | none => exact ⟨vp_nil, rfl, by simp [cntP, toksP]⟩
  | some t =>
    have hm := List.mem_of_getElem? hl
    obtain ⟨a1, a2, a3⟩ := pcsT_ok 16 t (h t hm)
    have hc := cnt_mem hm
    refine ⟨vp_segs rfl ?_, ?_, ?_⟩
    · intro s hs
      simp only [List.mem_cons, List.not_mem_nil, or_false] at hs
      rcases hs with rfl | rfl | rfl
      · exact sg_tok5 (.inr (by decide))
      · trivial
      · exact a1
    · simp only [text_flat, text_flat_nil, text_p5, text_sp, text_u, a2, List.append_nil]
      rfl
    · simp only [cnt_flat, cnt_flat_nil, cnt_p, cnt_sp, cnt_u]; omega
theorem op_good : ∀ t ∈ opsL, (Sg.w (.tok (opK t) t)).Is := by
  intro t ht
  have h : ∀ t ∈ opsL, nextT t = .inr (opK t, t, t.length) ∧ 1 ≤ opK t ∧ opK t ≤ 5 ∧ opK t ≠ 4 ∧ (t ≠ [40] ∧ t ≠ [91] ∧ t ≠ [123] ∧ t ≠ [41] ∧ t ≠ [93] ∧ t ≠ [125]) := by decide
  obtain ⟨h1, h2, h3, h4, h5⟩ := h t ht
  refine ⟨⟨?_, h2, h3⟩, Bal.one (.inr h5)⟩
  unfold Good writeT
  rw [if_neg h4]
  exact h1
theorem op_four : ∀ t ∈ opsL, opK t ≠ 4 := by decide
theorem types_pcs {ts : List TyD} (h : ∀ t ∈ ts, writtenB 16 t = true) : (∀ p ∈ ts.map pcsT, WP p) ∧ (ts.map pcsT).map textP = ts.map showT ∧ sumP (ts.map pcsT) + 4 * ts.length ≤ 6 * cntTs ts := by
  induction ts with
  | nil => exact ⟨by simp, rfl, by simp [sumP, cntTs]⟩
  | cons x l ih =>
    obtain ⟨a1, a2, a3⟩ := pcsT_ok 16 x (h x (by simp))
    obtain ⟨b1, b2, b3⟩ := ih fun t ht => h t (by simp [ht])
    refine ⟨?_, ?_, ?_⟩
    · intro p hp
      rw [List.map_cons] at hp
      rcases List.mem_cons.1 hp with rfl | hp
      · exact a1
      · exact b1 p hp
    · rw [List.map_cons, List.map_cons, List.map_cons, a2, b2]
    · rw [List.map_cons, sumP_cons, cntTs, List.length_cons]; omega
theorem sg_num {n : Int} (h0 : 0 ≤ n) (h1 : n ≤ 9223372036854775807) : (Sg.p (.tok 3 (Lib.itoa n))).Is := ⟨good_number h0 h1, by omega, by omega⟩
theorem strB_ok {s : Bt} (h : strB s = true) : s.length ≤ 256 ∧ ∀ c ∈ s, 32 ≤ c.toNat ∨ c.toNat = 9 ∨ c.toNat = 10 := by
  unfold strB at h
  rw [Bool.and_eq_true, decide_eq_true_eq, List.all_eq_true] at h
  refine ⟨h.1, fun c hc => ?_⟩
  have := h.2 c hc
  simp only [Bool.not_eq_true', Bool.and_eq_false_iff, decide_eq_false_iff_not, bne_eq_false_iff_eq] at this
  rcases this with (h | h) | h
  · left
    have : ¬ c.toNat < 32 := fun hh => h (UInt8.lt_iff_toNat_lt.2 hh)
    omega
  · subst h; exact .inr (.inl rfl)
  · subst h; exact .inr (.inr rfl)
theorem sg_str {s : Bt} (h : strB s = true) : (Sg.p (.tok 4 s)).Is := ⟨good_string (strB_ok h).1 (strB_ok h).2, by omega, by omega⟩
theorem tags_words : ∀ j, j < 6 → tagsL.getD j [] ∈ wordsL := by decide
/-- What is printed of an expression, piece by piece. -/
theorem pcsN_ok : ∀ (m : Nat) (x : NoD), nodeB m x = true → WP (pcsN x) ∧ textP (pcsN x) = exprS x ∧ cntP (pcsN x) + 4 ≤ 12 * cntN x
  | 0, x, h => by cases h
  | m + 1, x, h => by
    have all : ∀ ks : List NoD, (∀ t ∈ ks, nodeB m t = true) → (∀ p ∈ pcsNs ks, WP p) ∧ (pcsNs ks).map textP = exprSs ks ∧ sumP (pcsNs ks) + 4 * ks.length ≤ 12 * cntNs ks := by
      intro ks hk
      induction ks with
      | nil => exact ⟨by simp [pcsNs], by simp [pcsNs, exprSs], by simp [pcsNs, sumP, cntNs]⟩
      | cons x l ih =>
        obtain ⟨a1, a2, a3⟩ := pcsN_ok m x (hk x (by simp))
        obtain ⟨b1, b2, b3⟩ := ih fun t ht => hk t (by simp [ht])
        refine ⟨?_, ?_, ?_⟩
        · intro p hp
          rw [pcsNs] at hp
          rcases List.mem_cons.1 hp with rfl | hp
          · exact a1
          · exact b1 p hp
        · rw [pcsNs, exprSs, List.map_cons, a2, b2]
        · rw [pcsNs, sumP_cons, cntNs, List.length_cons]; omega
    have tl : ∀ ks : List NoD, (pcsNs ks).length = ks.length := fun ks => by rw [pcsNs_map, List.length_map]
    have k5 : ∀ {t : Bt}, t ∈ singlesL.map (fun c => [c]) → (Sg.p (.tok 5 t)).Is := fun h => sg_tok5 (.inr h)
    cases node_form h with
    | @int n li co h0 h1 =>
      refine ⟨wp_segs rfl (by intro s hs; simp only [pcsNs, segsN, Int.reduceEq, if_true, if_false, List.mem_cons, List.not_mem_nil, or_false] at hs; subst hs; exact sg_num h0 h1), ?_, ?_⟩
      · rw [pcsN, exprS]
        simp only [segsN, nodeS, simpleS, Int.reduceEq, if_true, if_false, text_flat, text_flat_nil, text_p3, List.append_nil]
      · rw [pcsN, cntN]
        simp only [segsN, Int.reduceEq, if_true, if_false, cnt_flat, cnt_flat_nil, cnt_p, cntNs, cntTs]; omega
    | @str t li co h0 =>
      refine ⟨wp_segs rfl (by intro s hs; simp only [pcsNs, segsN, Int.reduceEq, if_true, if_false, List.mem_cons, List.not_mem_nil, or_false] at hs; subst hs; exact sg_str h0), ?_, ?_⟩
      · rw [pcsN, exprS]
        simp only [segsN, nodeS, simpleS, Int.reduceEq, if_true, if_false, text_flat, text_flat_nil, text_p4, List.append_nil]
      · rw [pcsN, cntN]
        simp only [segsN, Int.reduceEq, if_true, if_false, cnt_flat, cnt_flat_nil, cnt_p, cntNs, cntTs]; omega
    | @bool n li co h0 =>
      rcases h0 with rfl | rfl
      all_goals
        refine ⟨wp_segs rfl (by intro s hs; simp only [pcsNs, segsN, Int.reduceEq, if_true, if_false, List.mem_cons, List.not_mem_nil, or_false] at hs; subst hs; exact sg_word (by decide)), ?_, ?_⟩
        · rw [pcsN, exprS]
          simp only [segsN, nodeS, simpleS, Int.reduceEq, if_true, if_false, text_flat, text_flat_nil, text_p2, List.append_nil]
        · rw [pcsN, cntN]
          simp only [segsN, Int.reduceEq, if_true, if_false, cnt_flat, cnt_flat_nil, cnt_p, cntNs, cntTs]; omega
    | @null li co =>
      refine ⟨wp_segs rfl (by intro s hs; simp only [pcsNs, segsN, Int.reduceEq, if_true, if_false, List.mem_cons, List.not_mem_nil, or_false] at hs; subst hs; exact sg_word (by decide)), ?_, ?_⟩
      · rw [pcsN, exprS]
        simp only [segsN, nodeS, simpleS, Int.reduceEq, if_true, if_false, text_flat, text_flat_nil, text_p2, List.append_nil]
      · rw [pcsN, cntN]
        simp only [segsN, Int.reduceEq, if_true, if_false, cnt_flat, cnt_flat_nil, cnt_p, cntNs, cntTs]; omega
    | @name t li co h0 =>
      refine ⟨wp_segs rfl (by intro s hs; simp only [pcsNs, segsN, Int.reduceEq, if_true, if_false, List.mem_cons, List.not_mem_nil, or_false] at hs; subst hs; exact sg_name h0), ?_, ?_⟩
      · rw [pcsN, exprS]
        simp only [segsN, nodeS, simpleS, Int.reduceEq, if_true, if_false, text_flat, text_flat_nil, text_p1, List.append_nil]
      · rw [pcsN, cntN]
        simp only [segsN, Int.reduceEq, if_true, if_false, cnt_flat, cnt_flat_nil, cnt_p, cntNs, cntTs]; omega
    | @read_ li co =>
      refine ⟨wp_segs rfl (by
        intro s hs
        simp only [pcsNs, segsN, Int.reduceEq, if_true, if_false, List.mem_cons, List.not_mem_nil, or_false] at hs
        rcases hs with rfl | rfl | rfl
        · exact sg_word (by decide)
        · exact k5 (by decide)
        · exact k5 (by decide)), ?_, ?_⟩
      · rw [pcsN, exprS]
        simp only [segsN, nodeS, simpleS, Int.reduceEq, if_true, if_false, text_flat, text_flat_nil, text_p2, text_p5, List.append_nil]; rfl
      · rw [pcsN, cntN]
        simp only [segsN, Int.reduceEq, if_true, if_false, cnt_flat, cnt_flat_nil, cnt_p, cntNs, cntTs]; omega
    | @inst t li co x ts h0 h1 =>
      obtain ⟨a1, a2, a3⟩ := types_pcs h1
      have h2 := cntP_comma ((x :: ts).map pcsT)
      rw [List.length_map] at h2
      refine ⟨wp_segs rfl (by
        intro s hs
        simp only [pcsNs, segsN, Int.reduceEq, if_true, if_false, List.mem_cons, List.not_mem_nil, or_false] at hs
        rcases hs with rfl | rfl | rfl | rfl
        · exact sg_name h0
        · exact k5 (by decide)
        · exact wp_comma _ (by simp) a1
        · exact k5 (by decide)), ?_, ?_⟩
      · rw [pcsN, exprS]
        simp only [segsN, nodeS, simpleS, cat, Int.reduceEq, if_true, if_false, text_flat, text_flat_nil, text_p1, text_p5, text_u, textP_join, a2, List.append_nil, List.flatMap_cons, List.flatMap_nil, id_eq]; rfl
      · rw [pcsN, cntN]
        simp only [segsN, Int.reduceEq, if_true, if_false, cnt_flat, cnt_flat_nil, cnt_p, cnt_u, cntNs]; omega
    | @rec_ li co ns ks hn hk hl =>
      obtain ⟨a1, a2, a3⟩ := all ks hk
      have h1 := cntP_comma (List.zipWith fieldP ns (pcsNs ks))
      have h2 := sumP_field ns (pcsNs ks)
      have h3 := zip_length_le fieldP ns (pcsNs ks)
      rw [tl] at h2 h3
      refine ⟨wp_segs rfl (by
        intro s hs
        simp only [segsN, Int.reduceEq, if_true, if_false, List.mem_cons, List.not_mem_nil, or_false] at hs
        rcases hs with rfl | rfl | rfl
        · exact k5 (by decide)
        · exact ep_comma _ (zip_wp fun n hnn p hp => wp_field (List.all_eq_true.1 hn n hnn) (a1 p hp))
        · exact k5 (by decide)), ?_, ?_⟩
      · rw [pcsN, exprS]
        simp only [segsN, nodeS, cat, Int.reduceEq, if_true, if_false, text_flat, text_flat_nil, text_p5, text_e, textP_join, zip_text text_field, a2, List.append_nil, List.flatMap_cons, List.flatMap_nil, id_eq]; rfl
      · rw [pcsN, cntN]
        simp only [segsN, Int.reduceEq, if_true, if_false, cnt_flat, cnt_flat_nil, cnt_p, cnt_e, cntTs]; omega
    | @call li co a b ha hb =>
      obtain ⟨a1, a2, a3⟩ := pcsN_ok m a ha
      obtain ⟨b1, b2, b3⟩ := pcsN_ok m b hb
      refine ⟨wp_segs rfl (by
        intro s hs
        simp only [pcsNs, segsN, Int.reduceEq, if_true, if_false, List.mem_cons, List.not_mem_nil, or_false, List.getD_cons_zero, List.getD_cons_succ] at hs
        rcases hs with rfl | rfl | rfl | rfl
        · exact a1
        · exact k5 (by decide)
        · exact b1
        · exact k5 (by decide)), ?_, ?_⟩
      · rw [pcsN, exprS]
        simp only [pcsNs, exprSs, segsN, nodeS, cat, Int.reduceEq, if_true, if_false, text_flat, text_flat_nil, text_p5, text_u, a2, b2, List.append_nil, List.flatMap_cons, List.flatMap_nil, id_eq, List.getD_cons_zero, List.getD_cons_succ]
      · rw [pcsN, cntN]
        simp only [pcsNs, segsN, Int.reduceEq, if_true, if_false, cnt_flat, cnt_flat_nil, cnt_p, cnt_u, cntTs, cntNs, List.getD_cons_zero, List.getD_cons_succ]; omega
    | @sel t li co a h0 ha =>
      obtain ⟨a1, a2, a3⟩ := pcsN_ok m a ha
      refine ⟨wp_segs rfl (by
        intro s hs
        simp only [pcsNs, segsN, Int.reduceEq, if_true, if_false, List.mem_cons, List.not_mem_nil, or_false, List.getD_cons_zero, List.getD_cons_succ] at hs
        rcases hs with rfl | rfl | rfl
        · exact a1
        · exact k5 (by decide)
        · exact sg_name h0), ?_, ?_⟩
      · rw [pcsN, exprS]
        simp only [pcsNs, exprSs, segsN, nodeS, cat, Int.reduceEq, if_true, if_false, text_flat, text_flat_nil, text_p1, text_p5, text_u, a2, List.append_nil, List.flatMap_cons, List.flatMap_nil, id_eq, List.getD_cons_zero, List.getD_cons_succ]
      · rw [pcsN, cntN]
        simp only [pcsNs, segsN, Int.reduceEq, if_true, if_false, cnt_flat, cnt_flat_nil, cnt_p, cnt_u, cntTs, cntNs, List.getD_cons_zero, List.getD_cons_succ]; omega
    | @with_ t li co a b h0 ha hb =>
      obtain ⟨a1, a2, a3⟩ := pcsN_ok m a ha
      obtain ⟨b1, b2, b3⟩ := pcsN_ok m b hb
      refine ⟨wp_segs rfl (by
        intro s hs
        simp only [pcsNs, segsN, Int.reduceEq, if_true, if_false, List.mem_cons, List.not_mem_nil, or_false, List.getD_cons_zero, List.getD_cons_succ] at hs
        rcases hs with rfl | rfl | rfl | rfl | rfl | rfl | rfl | rfl | rfl | rfl
        · exact k5 (by decide)
        · exact a1
        · trivial
        · exact sg_word (by decide)
        · trivial
        · exact sg_name h0
        · exact k5 (by decide)
        · trivial
        · exact b1
        · exact k5 (by decide)), ?_, ?_⟩
      · rw [pcsN, exprS]
        simp only [pcsNs, exprSs, segsN, nodeS, cat, Int.reduceEq, if_true, if_false, text_flat, text_flat_nil, text_p1, text_p2, text_p5, text_sp, text_u, a2, b2, List.append_nil, List.flatMap_cons, List.flatMap_nil, id_eq, List.getD_cons_zero, List.getD_cons_succ]; rfl
      · rw [pcsN, cntN]
        simp only [pcsNs, segsN, Int.reduceEq, if_true, if_false, cnt_flat, cnt_flat_nil, cnt_p, cnt_sp, cnt_u, cntTs, cntNs, List.getD_cons_zero, List.getD_cons_succ]; omega
    | @print_ li co a ha =>
      obtain ⟨a1, a2, a3⟩ := pcsN_ok m a ha
      refine ⟨wp_segs rfl (by
        intro s hs
        simp only [pcsNs, segsN, Int.reduceEq, if_true, if_false, List.mem_cons, List.not_mem_nil, or_false, List.getD_cons_zero, List.getD_cons_succ] at hs
        rcases hs with rfl | rfl | rfl | rfl
        · exact sg_word (by decide)
        · exact k5 (by decide)
        · exact a1
        · exact k5 (by decide)), ?_, ?_⟩
      · rw [pcsN, exprS]
        simp only [pcsNs, exprSs, segsN, nodeS, cat, Int.reduceEq, if_true, if_false, text_flat, text_flat_nil, text_p2, text_p5, text_u, a2, List.append_nil, List.flatMap_cons, List.flatMap_nil, id_eq, List.getD_cons_zero, List.getD_cons_succ]; rfl
      · rw [pcsN, cntN]
        simp only [pcsNs, segsN, Int.reduceEq, if_true, if_false, cnt_flat, cnt_flat_nil, cnt_p, cnt_u, cntTs, cntNs, List.getD_cons_zero, List.getD_cons_succ]; omega
    | @let0 t li co a b h0 ha hb =>
      obtain ⟨a1, a2, a3⟩ := pcsN_ok m a ha
      obtain ⟨b1, b2, b3⟩ := pcsN_ok m b hb
      obtain ⟨v1, v2, v3⟩ := note_vp (l := []) (by simp) 0
      refine ⟨wp_segs rfl (by
        intro s hs
        simp only [pcsNs, segsN, Int.reduceEq, if_true, if_false, List.mem_cons, List.not_mem_nil, or_false, List.getD_cons_zero, List.getD_cons_succ] at hs
        rcases hs with rfl | rfl | rfl | rfl | rfl | rfl | rfl | rfl | rfl | rfl | rfl | rfl | rfl
        · exact k5 (by decide)
        · exact sg_word (by decide)
        · trivial
        · exact sg_name h0
        · exact v1
        · trivial
        · exact k5 (by decide)
        · trivial
        · exact a1
        · exact k5 (by decide)
        · trivial
        · exact b1
        · exact k5 (by decide)), ?_, ?_⟩
      · rw [pcsN, exprS]
        simp only [pcsNs, exprSs, segsN, nodeS, cat, Int.reduceEq, if_true, if_false, text_flat, text_flat_nil, text_p1, text_p2, text_p5, text_sp, text_u, text_v, a2, b2, v2, List.append_nil, List.flatMap_cons, List.flatMap_nil, id_eq, List.getD_cons_zero, List.getD_cons_succ]; rfl
      · rw [pcsN, cntN]
        simp only [pcsNs, segsN, Int.reduceEq, if_true, if_false, cnt_flat, cnt_flat_nil, cnt_p, cnt_sp, cnt_u, cnt_v, cntTs, cntNs, List.getD_cons_zero, List.getD_cons_succ] at v3 ⊢; omega
    | @let1 t li co x a b h0 hx ha hb =>
      obtain ⟨a1, a2, a3⟩ := pcsN_ok m a ha
      obtain ⟨b1, b2, b3⟩ := pcsN_ok m b hb
      obtain ⟨v1, v2, v3⟩ := note_vp (l := [x]) (by simpa using hx) 0
      refine ⟨wp_segs rfl (by
        intro s hs
        simp only [pcsNs, segsN, Int.reduceEq, if_true, if_false, List.mem_cons, List.not_mem_nil, or_false, List.getD_cons_zero, List.getD_cons_succ] at hs
        rcases hs with rfl | rfl | rfl | rfl | rfl | rfl | rfl | rfl | rfl | rfl | rfl | rfl | rfl
        · exact k5 (by decide)
        · exact sg_word (by decide)
        · trivial
        · exact sg_name h0
        · exact v1
        · trivial
        · exact k5 (by decide)
        · trivial
        · exact a1
        · exact k5 (by decide)
        · trivial
        · exact b1
        · exact k5 (by decide)), ?_, ?_⟩
      · rw [pcsN, exprS]
        simp only [pcsNs, exprSs, segsN, nodeS, cat, Int.reduceEq, if_true, if_false, text_flat, text_flat_nil, text_p1, text_p2, text_p5, text_sp, text_u, text_v, a2, b2, v2, List.append_nil, List.flatMap_cons, List.flatMap_nil, id_eq, List.getD_cons_zero, List.getD_cons_succ]; rfl
      · rw [pcsN, cntN]
        simp only [pcsNs, segsN, Int.reduceEq, if_true, if_false, cnt_flat, cnt_flat_nil, cnt_p, cnt_sp, cnt_u, cnt_v, cntTs, cntNs, List.getD_cons_zero, List.getD_cons_succ] at v3 ⊢; omega
    | @fn1 t li co x a h0 hx ha =>
      obtain ⟨a1, a2, a3⟩ := pcsN_ok m a ha
      obtain ⟨v1, v2, v3⟩ := note_vp (l := [x]) (by simpa using hx) 0
      obtain ⟨u1, u2, u3⟩ := note_vp (l := [x]) (by simpa using hx) 1
      have u4 : cntP (noteP [x] 1) = 0 := rfl
      refine ⟨wp_segs rfl (by
        intro s hs
        simp only [pcsNs, segsN, Int.reduceEq, if_true, if_false, List.mem_cons, List.not_mem_nil, or_false, List.getD_cons_zero, List.getD_cons_succ] at hs
        rcases hs with rfl | rfl | rfl | rfl | rfl | rfl | rfl | rfl | rfl | rfl | rfl | rfl | rfl
        · exact k5 (by decide)
        · exact sg_word (by decide)
        · trivial
        · exact k5 (by decide)
        · exact sg_name h0
        · exact v1
        · exact k5 (by decide)
        · exact u1
        · trivial
        · exact sg_tok5 (.inl (by decide))
        · trivial
        · exact a1
        · exact k5 (by decide)), ?_, ?_⟩
      · rw [pcsN, exprS]
        simp only [pcsNs, exprSs, segsN, nodeS, cat, Int.reduceEq, if_true, if_false, text_flat, text_flat_nil, text_p1, text_p2, text_p5, text_sp, text_u, text_v, a2, u2, v2, List.append_nil, List.flatMap_cons, List.flatMap_nil, id_eq, List.getD_cons_zero, List.getD_cons_succ]; rfl
      · rw [pcsN, cntN]
        simp only [pcsNs, segsN, Int.reduceEq, if_true, if_false, cnt_flat, cnt_flat_nil, cnt_p, cnt_sp, cnt_u, cnt_v, cntTs, cntNs, List.getD_cons_zero, List.getD_cons_succ] at v3 ⊢; omega
    | @fn2 t li co x y a h0 hx hy ha =>
      obtain ⟨a1, a2, a3⟩ := pcsN_ok m a ha
      obtain ⟨v1, v2, v3⟩ := note_vp (l := [x]) (by simpa using hx) 0
      obtain ⟨u1, u2, u3⟩ := note_vp (l := [y]) (by simpa using hy) 0
      have e0 : noteP [x, y] 0 = noteP [x] 0 := rfl
      have e1 : noteP [x, y] 1 = noteP [y] 0 := rfl
      have e2 : noteS [x, y] 0 = noteS [x] 0 := rfl
      have e3 : noteS [x, y] 1 = noteS [y] 0 := rfl
      refine ⟨wp_segs rfl (by
        intro s hs
        simp only [pcsNs, segsN, Int.reduceEq, if_true, if_false, List.mem_cons, List.not_mem_nil, or_false, List.getD_cons_zero, List.getD_cons_succ] at hs
        rcases hs with rfl | rfl | rfl | rfl | rfl | rfl | rfl | rfl | rfl | rfl | rfl | rfl | rfl
        · exact k5 (by decide)
        · exact sg_word (by decide)
        · trivial
        · exact k5 (by decide)
        · exact sg_name h0
        · exact v1
        · exact k5 (by decide)
        · exact u1
        · trivial
        · exact sg_tok5 (.inl (by decide))
        · trivial
        · exact a1
        · exact k5 (by decide)), ?_, ?_⟩
      · rw [pcsN, exprS]
        simp only [pcsNs, exprSs, segsN, nodeS, cat, Int.reduceEq, if_true, if_false, text_flat, text_flat_nil, text_p1, text_p2, text_p5, text_sp, text_u, text_v, a2, e0, e1, e2, e3, u2, v2, List.append_nil, List.flatMap_cons, List.flatMap_nil, id_eq, List.getD_cons_zero, List.getD_cons_succ]; rfl
      · rw [pcsN, cntN]
        simp only [pcsNs, segsN, Int.reduceEq, if_true, if_false, cnt_flat, cnt_flat_nil, cnt_p, cnt_sp, cnt_u, cnt_v, cntTs, cntNs, e0, e1, List.getD_cons_zero, List.getD_cons_succ] at u3 v3 ⊢; omega
    | @if_ li co a b c ha hb hc =>
      obtain ⟨a1, a2, a3⟩ := pcsN_ok m a ha
      obtain ⟨b1, b2, b3⟩ := pcsN_ok m b hb
      obtain ⟨c1, c2, c3⟩ := pcsN_ok m c hc
      refine ⟨wp_segs rfl (by
        intro s hs
        simp only [pcsNs, segsN, Int.reduceEq, if_true, if_false, List.mem_cons, List.not_mem_nil, or_false, List.getD_cons_zero, List.getD_cons_succ] at hs
        rcases hs with rfl | rfl | rfl | rfl | rfl | rfl | rfl | rfl | rfl | rfl | rfl | rfl | rfl
        · exact k5 (by decide)
        · exact sg_word (by decide)
        · trivial
        · exact a1
        · trivial
        · exact sg_word (by decide)
        · trivial
        · exact b1
        · trivial
        · exact sg_word (by decide)
        · trivial
        · exact c1
        · exact k5 (by decide)), ?_, ?_⟩
      · rw [pcsN, exprS]
        simp only [pcsNs, exprSs, segsN, nodeS, cat, Int.reduceEq, if_true, if_false, text_flat, text_flat_nil, text_p1, text_p2, text_p5, text_sp, text_u, a2, b2, c2, List.append_nil, List.flatMap_cons, List.flatMap_nil, id_eq, List.getD_cons_zero, List.getD_cons_succ]; rfl
      · rw [pcsN, cntN]
        simp only [pcsNs, segsN, Int.reduceEq, if_true, if_false, cnt_flat, cnt_flat_nil, cnt_p, cnt_sp, cnt_u, cntTs, cntNs, List.getD_cons_zero, List.getD_cons_succ]; omega
    | @is_ n li co a h0 h5 ha =>
      obtain ⟨a1, a2, a3⟩ := pcsN_ok m a ha
      have hw : tagsL.getD n.toNat [] ∈ wordsL := tags_words _ (by omega)
      refine ⟨wp_segs rfl (by
        intro s hs
        simp only [pcsNs, segsN, Int.reduceEq, if_true, if_false, List.mem_cons, List.not_mem_nil, or_false, List.getD_cons_zero] at hs
        rcases hs with rfl | rfl | rfl | rfl | rfl | rfl | rfl
        · exact k5 (by decide)
        · exact a1
        · trivial
        · exact sg_word (by decide)
        · trivial
        · exact sg_word hw
        · exact k5 (by decide)), ?_, ?_⟩
      · rw [pcsN, exprS]
        simp only [pcsNs, exprSs, segsN, nodeS, cat, Int.reduceEq, if_true, if_false, text_flat, text_flat_nil, text_p1, text_p2, text_p5, text_sp, text_u, a2, List.append_nil, List.flatMap_cons, List.flatMap_nil, id_eq, List.getD_cons_zero]; rfl
      · rw [pcsN, cntN]
        simp only [pcsNs, segsN, Int.reduceEq, if_true, if_false, cnt_flat, cnt_flat_nil, cnt_p, cnt_sp, cnt_u, cntTs, cntNs, List.getD_cons_zero]; omega
    | @as_ li co x a hx ha =>
      obtain ⟨a1, a2, a3⟩ := pcsN_ok m a ha
      obtain ⟨x1, x2, x3⟩ := pcsT_ok 16 x hx
      refine ⟨wp_segs rfl (by
        intro s hs
        simp only [pcsNs, segsN, Int.reduceEq, if_true, if_false, List.mem_cons, List.not_mem_nil, or_false, List.getD_cons_zero, List.map_cons, List.map_nil] at hs
        rcases hs with rfl | rfl | rfl | rfl | rfl | rfl | rfl
        · exact k5 (by decide)
        · exact a1
        · trivial
        · exact sg_word (by decide)
        · trivial
        · exact x1
        · exact k5 (by decide)), ?_, ?_⟩
      · rw [pcsN, exprS]
        simp only [pcsNs, exprSs, segsN, nodeS, cat, Int.reduceEq, if_true, if_false, text_flat, text_flat_nil, text_p1, text_p2, text_p5, text_sp, text_u, a2, x2, List.append_nil, List.flatMap_cons, List.flatMap_nil, id_eq, List.getD_cons_zero, List.map_cons, List.map_nil]; rfl
      · rw [pcsN, cntN]
        simp only [pcsNs, segsN, Int.reduceEq, if_true, if_false, cnt_flat, cnt_flat_nil, cnt_p, cnt_sp, cnt_u, cntTs, cntNs, List.getD_cons_zero, List.map_cons, List.map_nil]; omega
    | @op_ t li co a b h0 ha hb =>
      obtain ⟨a1, a2, a3⟩ := pcsN_ok m a ha
      obtain ⟨b1, b2, b3⟩ := pcsN_ok m b hb
      have h4 := op_four t h0
      refine ⟨wp_segs rfl (by
        intro s hs
        simp only [pcsNs, segsN, Int.reduceEq, if_true, if_false, List.mem_cons, List.not_mem_nil, or_false, List.getD_cons_zero, List.getD_cons_succ] at hs
        rcases hs with rfl | rfl | rfl | rfl | rfl | rfl | rfl
        · exact k5 (by decide)
        · exact a1
        · trivial
        · exact op_good t h0
        · trivial
        · exact b1
        · exact k5 (by decide)), ?_, ?_⟩
      · rw [pcsN, exprS]
        simp only [pcsNs, exprSs, segsN, nodeS, cat, Int.reduceEq, if_true, if_false, text_flat, text_flat_nil, text_p1, text_p2, text_p5, text_sp, text_u, text_w _ _ h4, a2, b2, List.append_nil, List.flatMap_cons, List.flatMap_nil, id_eq, List.getD_cons_zero, List.getD_cons_succ]
      · rw [pcsN, cntN]
        simp only [pcsNs, segsN, Int.reduceEq, if_true, if_false, cnt_flat, cnt_flat_nil, cnt_p, cnt_w, cnt_sp, cnt_u, cntTs, cntNs, List.getD_cons_zero, List.getD_cons_succ]; omega
    | @not_ li co a ha =>
      obtain ⟨a1, a2, a3⟩ := pcsN_ok m a ha
      refine ⟨wp_segs rfl (by
        intro s hs
        simp only [pcsNs, segsN, Int.reduceEq, if_true, if_false, List.mem_cons, List.not_mem_nil, or_false, List.getD_cons_zero] at hs
        rcases hs with rfl | rfl | rfl | rfl | rfl
        · exact k5 (by decide)
        · exact sg_word (by decide)
        · trivial
        · exact a1
        · exact k5 (by decide)), ?_, ?_⟩
      · rw [pcsN, exprS]
        simp only [pcsNs, exprSs, segsN, nodeS, cat, Int.reduceEq, if_true, if_false, text_flat, text_flat_nil, text_p1, text_p2, text_p5, text_sp, text_u, a2, List.append_nil, List.flatMap_cons, List.flatMap_nil, id_eq, List.getD_cons_zero]; rfl
      · rw [pcsN, cntN]
        simp only [pcsNs, segsN, Int.reduceEq, if_true, if_false, cnt_flat, cnt_flat_nil, cnt_p, cnt_sp, cnt_u, cntTs, cntNs, List.getD_cons_zero]; omega
    | @neg_ li co a ha =>
      obtain ⟨a1, a2, a3⟩ := pcsN_ok m a ha
      refine ⟨wp_segs rfl (by
        intro s hs
        simp only [pcsNs, segsN, Int.reduceEq, if_true, if_false, List.mem_cons, List.not_mem_nil, or_false, List.getD_cons_zero] at hs
        rcases hs with rfl | rfl | rfl | rfl
        · exact k5 (by decide)
        · exact k5 (by decide)
        · exact a1
        · exact k5 (by decide)), ?_, ?_⟩
      · rw [pcsN, exprS]
        simp only [pcsNs, exprSs, segsN, nodeS, cat, Int.reduceEq, if_true, if_false, text_flat, text_flat_nil, text_p1, text_p2, text_p5, text_sp, text_u, a2, List.append_nil, List.flatMap_cons, List.flatMap_nil, id_eq, List.getD_cons_zero]
      · rw [pcsN, cntN]
        simp only [pcsNs, segsN, Int.reduceEq, if_true, if_false, cnt_flat, cnt_flat_nil, cnt_p, cnt_sp, cnt_u, cntTs, cntNs, List.getD_cons_zero]; omega
end Go.Proofs.YtbpedjkebemhnaaGreatDoor
end
section
/- What is printed of an expression are tokens, and its brackets open and close. -/
set_option linter.unusedVariables false
namespace Go.Proofs.YtbpedjkebemhnaaGreatDoor

theorem deep_some {a b : List (Int × Bt)} {d e : Nat} (h : deepT d (a ++ b) = some e) : ∃ c, deepT d a = some c ∧ deepT c b = some e := by
  rw [deepT_append] at h
  cases hc : deepT d a with
  | none => rw [hc] at h; cases h
  | some c => rw [hc] at h; exact ⟨c, rfl, h⟩
/-- One token on. -/
theorem deep_step {l : List TokD} {i : Nat} (hi : i < l.length) (h : deepT 0 (l.map ktOf) = some 0) : ∃ c e, deepT 0 ((l.take i).map ktOf) = some c ∧ stepD c (ktOf l[i]) = some e ∧ deepT 0 ((l.take (i + 1)).map ktOf) = some e := by
  have h2 := h
  rw [← List.take_append_drop (i + 1) l, List.map_append] at h2
  obtain ⟨e, he, _⟩ := deep_some h2
  have h3 := he
  rw [List.take_succ_eq_append_getElem hi, List.map_append] at h3
  obtain ⟨c, hc, hd⟩ := deep_some h3
  refine ⟨c, e, hc, ?_, he⟩
  simp only [List.map_cons, List.map_nil] at hd
  rw [deepT_cons] at hd
  cases hs : stepD c (ktOf l[i]) with
  | none => rw [hs] at hd; cases hd
  | some f =>
    rw [hs] at hd
    exact hd
theorem lexes_law (n : NoD) (hc : cntN n ≤ 300) : ((lexL (exprT n)).2.2.2 = 2 ∧ (lexL (exprT n)).1 = []) ∨ (∃ l, lexL (exprT n) = (l, (0, 0, 0)) ∧ deepT 0 (l.map ktOf) = some 0 ∧ l.length ≤ 8193) := by
  cases hn : nodeB 25 n with
  | false =>
    have e : exprT n = [] := by unfold exprT; rw [hn]; rfl
    rw [e]
    exact .inr ⟨_, rfl, rfl, by decide⟩
  | true =>
    have e : exprT n = exprS n := by unfold exprT; rw [hn]; rfl
    rw [e]
    obtain ⟨h1, h2, h3⟩ := pcsN_ok 25 n hn
    rw [← h2]
    by_cases hl : 65536 < (textP (pcsN n)).length
    · left
      unfold lexL
      rw [if_pos hl]
      exact ⟨rfl, rfl⟩
    · right
      unfold cntP at h3
      obtain ⟨m, x, k1, k2, k3⟩ := lexL_pieces h1.1 (by omega) (by omega)
      refine ⟨m ++ [x], k2, ?_, ?_⟩
      · rw [List.map_append, ← k1, deepT_append, h1.2.2.2 0]
        show deepT 0 [ktOf x] = some 0
        rw [k3]; rfl
      · have := congrArg List.length k1
        rw [List.length_map] at this
        rw [List.length_append, List.length_cons, List.length_nil]; omega
end Go.Proofs.YtbpedjkebemhnaaGreatDoor
end
section
/- Steps of regions that draw their order, said in short. -/
set_option linter.unusedVariables false
namespace Go.Proofs.YtbpedjkebemhnaaGreatDoor
open Go.RowKit

section
variable {P : Program} {md : Region.Mode} {ops : Array Oper} {Q : Exit → Act → World → Prop} {S : World → Prop}
/-- Number i is taken first: it yields v. -/
theorem tk (i : Nat) (v : Value) {oi : Oper} {fuel : Nat} {listed listed' : Array Bool} {a a' : Act} {w : World} (hS : S w) (h : wpAnyH P md ops Q S fuel listed' a' w)
    (hi : ops[i]? = some oi := by rfl) (hs : Region.noSelect ops = true := by kernel_rfl) (hf : Region.free md ops listed i = true := by kernel_rfl) (hr : (Region.ready md ops listed).contains i = true := by kernel_rfl)
    (hQ : ∀ c a w, Q (.panic c) (a.put oi.dst v) w → Q (.panic c) a w := by exact fun _ _ _ h => h) (hw : Region.wanted oi (yielded ops a.tmps) = true := by kernel_rfl)
    (hy : ∀ w, S w → (execOp a.eval oi).run P w = .ok (.value v) w := by intro w' hSw; go_simp)
    (hl : listed.setIfInBounds i true = listed' := by (try simp only [List.setIfInBounds_toArray, List.set_cons_zero, List.set_cons_succ]); rfl)
    (ha : a.put oi.dst v = a' := by (try simp only [Act.put, List.getElem_toArray, List.getElem_cons_zero, List.getElem_cons_succ, List.setIfInBounds_toArray, List.set_cons_zero, List.set_cons_succ]); rfl) : wpAnyH P md ops Q S (fuel + 1) listed a w := by
  subst hl ha
  exact wpAnyH_take hi hs hf hr hQ (.inl ⟨hw, hy⟩) hS h
/-- The same, of what cells hold. -/
theorem tkf (i : Nat) (v : Value) {F : World → Prop} (f : ∀ w', S w' → F w') {oi : Oper} {fuel : Nat} {listed listed' : Array Bool} {a a' : Act} {w : World} (hS : S w) (h : wpAnyH P md ops Q S fuel listed' a' w)
    (hi : ops[i]? = some oi := by rfl) (hs : Region.noSelect ops = true := by kernel_rfl) (hf : Region.free md ops listed i = true := by kernel_rfl) (hr : (Region.ready md ops listed).contains i = true := by kernel_rfl)
    (hQ : ∀ c a w, Q (.panic c) (a.put oi.dst v) w → Q (.panic c) a w := by exact fun _ _ _ h => h) (hw : Region.wanted oi (yielded ops a.tmps) = true := by kernel_rfl)
    (hy : ∀ w, F w → (execOp a.eval oi).run P w = .ok (.value v) w := by intro w' hSw; go_simp)
    (hl : listed.setIfInBounds i true = listed' := by (try simp only [List.setIfInBounds_toArray, List.set_cons_zero, List.set_cons_succ]); rfl)
    (ha : a.put oi.dst v = a' := by (try simp only [Act.put, List.getElem_toArray, List.getElem_cons_zero, List.getElem_cons_succ, List.setIfInBounds_toArray, List.set_cons_zero, List.set_cons_succ]); rfl) : wpAnyH P md ops Q S (fuel + 1) listed a w := by
  subst hl ha
  exact wpAnyH_take hi hs hf hr hQ (.inl ⟨hw, fun w h => hy w (f w h)⟩) hS h
end
section
variable {w : World} {a0 a1 a2 a3 a4 a5 a6 a7 : Addr} {v0 v1 v2 v3 v4 v5 v6 v7 : Value}
theorem kb {w w' : World} {a : Addr} {v : Value} (h : Below w.heap.size w w') (d : w.cell? a = some v) : w'.cell? a = some v := (h.cell (World.block_lt_of_cell? w a d)).trans d
theorem kp1 (d0 : w.cell? a0 = some v0) : ∀ w', Below w.heap.size w w' → w'.cell? a0 = some v0 := fun _ h => kb h d0
theorem kp4 (d0 : w.cell? a0 = some v0) (d1 : w.cell? a1 = some v1) (d2 : w.cell? a2 = some v2) (d3 : w.cell? a3 = some v3) :
    ∀ w', Below w.heap.size w w' → w'.cell? a0 = some v0 ∧ w'.cell? a1 = some v1 ∧ w'.cell? a2 = some v2 ∧ w'.cell? a3 = some v3 := fun _ h => ⟨kb h d0, kb h d1, kb h d2, kb h d3⟩
end
end Go.Proofs.YtbpedjkebemhnaaGreatDoor
end
section
/- Texts that belong together: TJ, TK, TN. -/
/- A list of texts, each told of its number: tree.list. -/
set_option linter.unusedVariables false
namespace Go.Proofs.YtbpedjkebemhnaaGreatDoor
open Go.RowKit

theorem make_texts (w : World) (n : Nat) (hn : n ≤ 1000000) : ∃ w1, (Instr.makeSlice 23 (.int .i64 (n : Nat)) (.int .i64 (n : Nat))).run Tryz.prog w = .ok (.slice (some ⟨w.heap.size, 0, none⟩) n n) w1 ∧
    (∃ cur : List Value, w1.heap[w.heap.size]? = some (.cells cur.toArray 9 (0, 0)) ∧ cur.length = n) ∧ Below w.heap.size w w1 := by
  obtain ⟨ht, hinfo, _, _⟩ := el_str
  obtain ⟨i, hi, hz, hs, hb⟩ := info_parts hinfo
  have hr := run_make (P := Tryz.prog) w 23 9 i _ ht hi hz .i64 .i64 n n (by omega) (Int.le_refl _) (by rw [hb]; omega) (by omega)
  simp only [Int.toNat_natCast] at hr
  refine ⟨_, hr, ⟨(madeCells (sv []).cells (n * i.size)).toList, by rw [Array.toArray_toList]; exact heap_alloc_new w _, by rw [Array.length_toList, size_madeCells, hs, Nat.mul_one]⟩, (Below.refl _ _).alloc (Nat.le_refl _) _⟩
theorem ss_of_row {w : World} {b : Nat} {l : List Bt} {t : TypeId} {n : Nat} (hn : n = l.length) (h : w.heap[b]? = some (.cells (svs l).toArray t (0, 0))) (hl : l.length ≤ maxLen) : Ss w w.heap.size (.slice (some ⟨b, 0, none⟩) n n) l := by
  subst hn
  refine ⟨_, l.length, l.length, rfl, by simp [svs_length], Nat.le_refl _, hl, fun _ => ⟨b, 0, rfl, block_lt h, fun j u hu => ?_⟩⟩
  rw [Nat.zero_add, cell_of_row _ _ _ _ _ (0, 0) h]
  simpa using hu
theorem svs_take {l : List Bt} {i : Nat} (h : i < l.length) : svs (l.take (i + 1)) = svs (l.take i) ++ [sv l[i]] := by
  rw [List.take_succ_eq_append_getElem h, svs_append]; rfl
set_option maxRecDepth 100000 in
set_option maxHeartbeats 2000000 in
theorem list_any (F : Nat) (eg : ∀ args w, (callFunc F args).run Tryz.prog w = .ok (.enter F args) w) (caps : Array Value) (l : List Bt) (w : World) (hn : l.length ≤ 1000000) (hlen : (joinS [44, 32] l).length ≤ 140737488355328)
    (hF : ∀ (i : Nat) (hi : i < l.length) (w1 : World), Below w.heap.size w w1 → Calls Tryz.prog F (#[.int .i64 (i : Int)] ++ caps) w1 fun e w2 => e = .returned (sv l[i]) ∧ Below w1.heap.size w1 w2) :
    Calls Tryz.prog 72 #[.int .i64 (l.length : Int), .func (.func F) #[] caps] w fun e w' => e = .returned (sv (joinS [44, 32] l)) ∧ Below w.heap.size w w' := by
  obtain ⟨w1, hmk, ⟨cur0, hcur, hcl⟩, hb1⟩ := make_texts w l.length hn
  have HF := hid hF
  have HCUR := hid hcur
  have HB1 := hid hb1
  have HLEN := hid hlen
  clear hF hcur hb1 hlen
  obtain ⟨n, hnl⟩ : ∃ n, n = l.length := ⟨_, rfl⟩
  have HNL := hid hnl
  rw [← hnl] at hmk hcl hn ⊢
  clear hnl
  obtain ⟨bb, hbbe⟩ : ∃ bb, bb = w.heap.size := ⟨_, rfl⟩
  have HBBE := hid hbbe
  rw [← hbbe] at HCUR hmk
  clear hbbe
  go_enter Tryz.func72, Tryz.ntmps72
  go_wp2_with fail
  clear hmk
  go_loopw [10] (fun v10 wr => ∃ (k : Nat) (cur : List Value), v10 = .int .i64 k ∧ k ≤ n ∧ wr.heap[bb]? = some (.cells cur.toArray 9 (0, 0)) ∧ cur.length = n ∧ cur.take k = svs (l.take k) ∧ Below w.heap.size w wr) (fun v10 _ => n - (intOf v10).toNat)
  case atStart => exact ⟨0, cur0, rfl, by omega, HCUR.out, hcl, rfl, HB1.out⟩
  case round =>
    obtain ⟨k, cur, rfl, hk, hcur, hcn, htk, hbr⟩ := hrel
    have HTK := hid htk
    clear htk
    by_cases hlt : k < n
    · have hkl : k < l.length := by rw [← HNL.out]; exact hlt
      have HC := hid (HF.out k hkl wr hbr)
      have HB := hid hbr
      have HCR := hid hcur
      have HST := hid (svs_take hkl)
      generalize l[k] = X at *
      clear hbr hcur
      go_wp2_with fail
      refine HC.out.mono ?_
      rintro e w2 ⟨rfl, hb⟩
      have hcur2 := (hb.block _ (block_lt HCR.out)).trans HCR.out
      have z1 : w2.cell? ⟨bb, k, none⟩ = some (cur[k]'(by omega)) := (cell_of_row _ _ _ _ _ (0, 0) hcur2).trans (by simp [hcn, hlt])
      have z2 := block_free hcur2 k
      have hnew := heap_setCell_same w2 bb k _ _ (sv X) hcur2
      rw [List.setIfInBounds_toArray] at hnew
      have HNEW := hid hnew
      have hb2 := HB.out.trans (hb.mono HB.out.size)
      have hbn := hb2.trans ((turn_set w2 bb k (sv X)).below hb2.size (fun j hj h => by have := HBBE.out; omega))
      have htn := take_set_snoc (v := sv X) HTK.out (by omega)
      have HTN := hid htn
      have HBN := hid hbn
      have HCN := hid hcn
      clear hnew htn hcur2 hb hbn hb2
      generalize cur[k] = cj at *
      go_wp2_with fail
      go_roundw
      case rel => exact ⟨k + 1, _, rfl, by omega, HNEW.out, by rw [List.length_set]; exact HCN.out, by rw [HTN.out, HST.out], HBN.out⟩
      case measure => simp [intOf]; omega
    · obtain rfl : k = n := by omega
      have hcc : cur = svs l := by
        have h1 := HTK.out
        rw [List.take_of_length_le (by omega), List.take_of_length_le (by rw [← HNL.out]; omega)] at h1
        exact h1
      subst hcc
      have HJ := hid (join_any wr (.slice (some ⟨bb, 0, none⟩) k k) l [44, 32] (ss_of_row HNL.out hcur (by rw [← HNL.out]; unfold maxLen; omega)) (by rw [← HNL.out]; omega) HLEN.out)
      have HB := hid hbr
      clear hbr hcur
      go_wp2_with fail
      refine HJ.out.mono ?_
      rintro e w2 ⟨rfl, hb⟩
      go_wp2_with fail
      go_ret
      exact ⟨rfl, HB.out.trans (hb.mono HB.out.size)⟩
end Go.Proofs.YtbpedjkebemhnaaGreatDoor

/- A field of a record type as text: show's closure. -/
set_option linter.unusedVariables false
namespace Go.Proofs.YtbpedjkebemhnaaGreatDoor
open Go.RowKit

theorem kp {w w' : World} {a : Addr} {v : Value} (h : Below w.heap.size w w') (d : w.cell? a = some v) : w'.cell? a = some v := (h.cell (World.block_lt_of_cell? w a d)).trans d
theorem elem_at {w : World} {B : Nat} {A : Option Addr} {n c : Nat} {xk : List Value} {ks : List TyD} (h2 : Sl w B 4 (.slice A n c) xk) (hr : TysR w B xk ks) {i : Nat} (hi : i < ks.length) (hn : n = ks.length) :
    ∃ b o k s A1 n1 c1 A2 n2 c2, A = some ⟨b, o, none⟩ ∧ TyR w B [.int .i64 k, .string s, .slice A1 n1 c1, .slice A2 n2 c2] ks[i] ∧ w.cell? ⟨b, o + i * 4, none⟩ = some (.int .i64 k) ∧ w.cell? ⟨b, o + i * 4 + 1, none⟩ = some (.string s) ∧ w.cell? ⟨b, o + i * 4 + 2, none⟩ = some (.slice A1 n1 c1) ∧ w.cell? ⟨b, o + i * 4 + 3, none⟩ = some (.slice A2 n2 c2) := by
  subst hn
  obtain ⟨b1, o1, rfl, hb1, hc1⟩ := t_sl_in h2 hi (by omega)
  have hr1 := hr.at i hi
  obtain ⟨kk, s, A1, n1, c1, A2, n2, c2, hv1⟩ := hr1.shape
  rw [hv1] at hr1
  refine ⟨b1, o1, kk, s, A1, n1, c1, A2, n2, c2, rfl, hr1, ?_, ?_, ?_, ?_⟩
  · have := hc1 0 _ (t_part hv1 (by omega : 0 < 4)); simpa using this
  · have := hc1 1 _ (t_part hv1 (by omega : 1 < 4)); simpa [Nat.add_assoc] using this
  · have := hc1 2 _ (t_part hv1 (by omega : 2 < 4)); simpa [Nat.add_assoc] using this
  · have := hc1 3 _ (t_part hv1 (by omega : 3 < 4)); simpa [Nat.add_assoc] using this
theorem text_at {w : World} {B : Nat} {A : Option Addr} {n c : Nat} {ns : List Bt} (h : Ss w B (.slice A n c) ns) {i : Nat} (hi : i < ns.length) :
    ∃ b o, A = some ⟨b, o, none⟩ ∧ w.cell? ⟨b, o + i, none⟩ = some (sv ns[i]) := by
  obtain ⟨A', c', hv, _, _, hx⟩ := h.open_
  injection hv with e1 e2 e3
  subst e1 e2 e3
  obtain ⟨b, o, hA, _, hc⟩ := hx (by omega)
  exact ⟨b, o, hA, hc i hi⟩
set_option maxRecDepth 100000 in
set_option maxHeartbeats 2000000 in
theorem show1_any (w : World) (bt : Nat) (k : Int) (nm : Bt) (ns : List Bt) (ks : List TyD) (A1 : Option Addr) (c1 : Nat) (A2 : Option Addr) (c2 : Nat) (xk : List Value)
    (hbt : w.heap[bt]? = some (.cells #[.int .i64 k, sv nm, .slice A1 ns.length c1, .slice A2 ks.length c2] 32 (0, 0))) (s1 : Ss w w.heap.size (.slice A1 ns.length c1) ns) (s2 : Sl w w.heap.size 4 (.slice A2 ks.length c2) xk) (r2 : TysR w w.heap.size xk ks)
    (i : Nat) (hi : i < ks.length) (hin : i < ns.length) (hS : ShowC ks[i]) (m : Nat) (hw : writtenB m ks[i] = true) (hc : cntT ks[i] ≤ 100000) (hnm : ns[i].length ≤ 32) :
    Calls Tryz.prog 83 #[.int .i64 (i : Int), .pointer (some ⟨bt, 0, none⟩)] w fun e w' => e = .returned (sv (fieldS ns[i] (showT ks[i]))) ∧ Below w.heap.size w w' := by
  obtain ⟨_, _, g2, g3⟩ := t_row4 hbt
  obtain ⟨b1, o1, rfl, d0⟩ := text_at s1 hin
  obtain ⟨b2, o2, kk, ss, A3, n3, c3, A4, n4, c4, rfl, hr1, e0, e1, e2, e3⟩ := elem_at s2 r2 hi rfl
  have hlen := show_len ks[i] m hw
  have HS := hid (fun w1 (h : Below w.heap.size w w1) => hS w1 _ m (hr1.far (Nat.le_refl _) h) hw hc)
  have l1 := (t_sl_len s1).2
  have l2 := (t_sl_len s2).2
  have hsz0 := sv_size ns[i]
  have hsz1 := sv_size (showT ks[i])
  generalize ns[i] = X at *
  generalize showT ks[i] = s at *
  generalize cntT ks[i] = N at *
  clear hS hw hr1 r2 s1 s2 hbt
  generalize ns.length = a at *
  generalize ks.length = b at *
  have HF : Hid (fieldS X s = (X ++ [58, 32]) ++ s) := hid (by unfold fieldS; rw [List.append_assoc])
  have q1 : ¬ (9223372036854775807 < X.length + 2) := by omega
  have q2 : ¬ (9223372036854775807 < X.length + 2 + s.length) := by omega
  have G2 := hid g2
  have G3 := hid g3
  have D0 := hid d0
  have E0 := hid e0
  have E1 := hid e1
  have E2 := hid e2
  have E3 := hid e3
  have HB0 : Hid (Below w.heap.size w w.drew) := hid (below_drawn w 1)
  clear hc hlen g2 g3 d0 e0 e1 e2 e3 hnm
  go_enter Tryz.func83, Tryz.ntmps83
  go_wp2_with fail
  refine wp_region_held_drew (S := fun w' => Below w.heap.size w w') (by kernel_rfl) HB0.out (fun _ => ?_)
  try simp only [Act.put, List.getElem_toArray, List.getElem_cons_zero, List.getElem_cons_succ, List.setIfInBounds_toArray, List.set_cons_zero, List.set_cons_succ]
  refine tk 0 (.pointer (some ⟨bt, 2, none⟩)) HB0.out ?_
  refine tkf 1 (.slice (some ⟨b1, o1, none⟩) a c1) (kp1 G2.out) HB0.out ?_
  refine tk 2 (.int .i64 (i : Int)) HB0.out ?_
  refine tk 3 (.pointer (some ⟨b1, o1 + i, none⟩)) HB0.out ?_
  refine tkf 4 (sv X) (kp1 D0.out) HB0.out ?_
  refine tk 5 (.string ((⟨X.toArray⟩ : ByteArray) ++ ⟨#[58, 32]⟩)) HB0.out ?_
  refine tk 6 (.pointer (some ⟨bt, 3, none⟩)) HB0.out ?_
  refine tkf 7 (.slice (some ⟨b2, o2, none⟩) b c2) (kp1 G3.out) HB0.out ?_
  refine tk 8 (.int .i64 (i : Int)) HB0.out ?_
  refine tk 9 (.pointer (some ⟨b2, o2 + i * 4, none⟩)) HB0.out ?_
  refine tkf 10 (.agg #[.int .i64 kk, .string ss, .slice A3 n3 c3, .slice A4 n4 c4]) (kp4 E0.out E1.out E2.out E3.out) HB0.out ?_
  refine wpAnyH_ready (rs := [11]) (by kernel_rfl) (by simp) ?_
  refine AllReadyH.cons rfl (fun K hK => ?_) (AllReadyH.nil)
  go_simp
  refine (HS.out _ HB0.out).mono ?_
  rintro e w2 ⟨rfl, hb⟩
  have HB2 := hid (HB0.out.trans (hb.mono HB0.out.size))
  clear hb
  refine hK.out _ _ HB2.out (fun _ => ?_)
  clear hK K
  try simp only [Act.put, List.getElem_toArray, List.getElem_cons_zero, List.getElem_cons_succ, List.setIfInBounds_toArray, List.set_cons_zero, List.set_cons_succ]
  refine tk 12 (.string ((⟨X.toArray⟩ : ByteArray) ++ ⟨#[58, 32]⟩ ++ ⟨s.toArray⟩)) HB2.out ?_
  refine tk 13 (.string ((⟨X.toArray⟩ : ByteArray) ++ ⟨#[58, 32]⟩ ++ ⟨s.toArray⟩)) HB2.out ?_
  refine wpAnyH_done (by kernel_rfl) ?_ _
  go_wp2_with fail
  go_ret
  refine ⟨?_, HB2.out⟩
  rw [HF.out]
  have e : (⟨X.toArray⟩ : ByteArray) ++ ⟨#[58, 32]⟩ ++ ⟨s.toArray⟩ = ⟨((X ++ [58, 32]) ++ s).toArray⟩ := by
    rw [show (⟨#[58, 32]⟩ : ByteArray) = ⟨([58, 32] : Bt).toArray⟩ from rfl, str_append, str_append]
  exact congrArg (fun b => Ending.returned (Value.string b)) e
end Go.Proofs.YtbpedjkebemhnaaGreatDoor

/- Nodes in memory: their cells. -/
set_option linter.unusedVariables false
namespace Go.Proofs.YtbpedjkebemhnaaGreatDoor
open Go.RowKit

theorem t_row8 {w : World} {b : Nat} {x0 x1 x2 x3 x4 x5 x6 x7 : Value} {T : TypeId} (h : w.heap[b]? = some (.cells #[x0, x1, x2, x3, x4, x5, x6, x7] T (0, 0))) :
    w.cell? ⟨b, 0, none⟩ = some x0 ∧ w.cell? ⟨b, 1, none⟩ = some x1 ∧ w.cell? ⟨b, 2, none⟩ = some x2 ∧ w.cell? ⟨b, 3, none⟩ = some x3 ∧ w.cell? ⟨b, 4, none⟩ = some x4 ∧ w.cell? ⟨b, 5, none⟩ = some x5 ∧ w.cell? ⟨b, 6, none⟩ = some x6 ∧ w.cell? ⟨b, 7, none⟩ = some x7 :=
  ⟨(cell_of_row _ _ _ _ _ _ h).trans rfl, (cell_of_row _ _ _ _ _ _ h).trans rfl, (cell_of_row _ _ _ _ _ _ h).trans rfl, (cell_of_row _ _ _ _ _ _ h).trans rfl, (cell_of_row _ _ _ _ _ _ h).trans rfl, (cell_of_row _ _ _ _ _ _ h).trans rfl, (cell_of_row _ _ _ _ _ _ h).trans rfl, (cell_of_row _ _ _ _ _ _ h).trans rfl⟩
theorem t_row5 {w : World} {b : Nat} {x0 x1 x2 x3 x4 : Value} {T : TypeId} (h : w.heap[b]? = some (.cells #[x0, x1, x2, x3, x4] T (0, 0))) :
    w.cell? ⟨b, 0, none⟩ = some x0 ∧ w.cell? ⟨b, 1, none⟩ = some x1 ∧ w.cell? ⟨b, 2, none⟩ = some x2 ∧ w.cell? ⟨b, 3, none⟩ = some x3 ∧ w.cell? ⟨b, 4, none⟩ = some x4 :=
  ⟨(cell_of_row _ _ _ _ _ _ h).trans rfl, (cell_of_row _ _ _ _ _ _ h).trans rfl, (cell_of_row _ _ _ _ _ _ h).trans rfl, (cell_of_row _ _ _ _ _ _ h).trans rfl, (cell_of_row _ _ _ _ _ _ h).trans rfl⟩
theorem two_new (w : World) (o1 o2 : Obj) : ((w.alloc o1).alloc o2).heap[w.heap.size]? = some o1 ∧ ((w.alloc o1).alloc o2).heap[w.heap.size + 1]? = some o2 := by
  have hs : (w.alloc o1).heap.size = w.heap.size + 1 := by simp
  refine ⟨?_, ?_⟩
  · exact block_turn (heap_alloc_new w o1) (Turn.alloc (fun _ => False) _ o2) (fun h => h)
  · have := heap_alloc_new (w.alloc o1) o2
    rwa [hs] at this
/-- An element of a row of nodes. -/
theorem node_at {w : World} {B : Nat} {A : Option Addr} {n c : Nat} {xk : List Value} {ks : List NoD} (h2 : Sl w B 8 (.slice A n c) xk) (hr : NosR w B xk ks) {i : Nat} (hi : i < ks.length) (hn : n = ks.length) :
    ∃ b o k s v2 v3 v4 A1 n1 c1 A2 n2 c2 A3 n3 c3, A = some ⟨b, o, none⟩ ∧ NoR w B [.int .i64 k, .string s, .int .i64 v2, .int .i64 v3, .int .i64 v4, .slice A1 n1 c1, .slice A2 n2 c2, .slice A3 n3 c3] ks[i] ∧
      w.cell? ⟨b, o + i * 8, none⟩ = some (.int .i64 k) ∧ w.cell? ⟨b, o + i * 8 + 1, none⟩ = some (.string s) ∧ w.cell? ⟨b, o + i * 8 + 2, none⟩ = some (.int .i64 v2) ∧ w.cell? ⟨b, o + i * 8 + 3, none⟩ = some (.int .i64 v3) ∧ w.cell? ⟨b, o + i * 8 + 4, none⟩ = some (.int .i64 v4) ∧
      w.cell? ⟨b, o + i * 8 + 5, none⟩ = some (.slice A1 n1 c1) ∧ w.cell? ⟨b, o + i * 8 + 6, none⟩ = some (.slice A2 n2 c2) ∧ w.cell? ⟨b, o + i * 8 + 7, none⟩ = some (.slice A3 n3 c3) := by
  subst hn
  obtain ⟨b1, o1, rfl, hb1, hc1⟩ := t_sl_in h2 hi (by omega)
  have hr1 := hr.at i hi
  obtain ⟨kk, s, v2, v3, v4, A1, n1, c1, A2, n2, c2, A3, n3, c3, hv1⟩ := hr1.shape
  rw [hv1] at hr1
  refine ⟨b1, o1, kk, s, v2, v3, v4, A1, n1, c1, A2, n2, c2, A3, n3, c3, rfl, hr1, ?_, ?_, ?_, ?_, ?_, ?_, ?_, ?_⟩
  · have := hc1 0 _ (t_part hv1 (by omega : 0 < 8)); simpa using this
  · have := hc1 1 _ (t_part hv1 (by omega : 1 < 8)); simpa [Nat.add_assoc] using this
  · have := hc1 2 _ (t_part hv1 (by omega : 2 < 8)); simpa [Nat.add_assoc] using this
  · have := hc1 3 _ (t_part hv1 (by omega : 3 < 8)); simpa [Nat.add_assoc] using this
  · have := hc1 4 _ (t_part hv1 (by omega : 4 < 8)); simpa [Nat.add_assoc] using this
  · have := hc1 5 _ (t_part hv1 (by omega : 5 < 8)); simpa [Nat.add_assoc] using this
  · have := hc1 6 _ (t_part hv1 (by omega : 6 < 8)); simpa [Nat.add_assoc] using this
  · have := hc1 7 _ (t_part hv1 (by omega : 7 < 8)); simpa [Nat.add_assoc] using this
end Go.Proofs.YtbpedjkebemhnaaGreatDoor
end
