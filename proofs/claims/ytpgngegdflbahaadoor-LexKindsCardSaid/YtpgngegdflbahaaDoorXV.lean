/- LexKinds walked. -/
import Derived.Test.YtpgngegdflbahaaDoorXR
import Derived.Test.YtpgngegdflbahaaDoorXL
import Derived.Test.YtpgngegdflbahaaDoorXP
import Derived.Test.YtpgngegdflbahaaDoorPK
import Derived.Test.YtpgngegdflbahaaDoorPT
set_option linter.unusedVariables false
namespace Go.Proofs.YtpgngegdflbahaaDoor
open Go.RowKit

theorem cell_lt {w : World} {g i : Nat} {v : Value} (h : w.cell? ⟨g, i, none⟩ = some v) : g < w.heap.size := by
  rcases Nat.lt_or_ge g w.heap.size with h1 | h1
  · exact h1
  · simp [World.cell?, Array.getElem?_eq_none h1] at h
theorem kinds_at (s : Bt) (h : s.length ≤ 65536) {l : List TokD} (hl : lexL s = (l, (0, 0, 0))) (k : Nat) (hk : k < l.length) :
    (k + 1 = l.length ∧ l[k].kind = 0) ∨ (k + 1 < l.length ∧ KindOk l[k].kind l[k].text) := by
  have e : lexL s = lexF (s.length + 1) s (1, 1) [] := by unfold lexL; rw [if_neg (by omega)]
  rw [e] at hl
  rcases lexF_kinds (s.length + 1) s (1, 1) [] with h | ⟨m, f, h1, h2, h3, h4⟩
  · rw [hl] at h
    simp only at h
    subst h
    simp at hk
  · rw [hl, List.nil_append] at h1
    simp only at h1
    subst h1
    rw [List.length_append, List.length_singleton] at hk ⊢
    by_cases hkm : k < m.length
    · rw [List.getElem_append_left hkm]
      exact .inr ⟨by omega, h4 _ (List.getElem_mem hkm)⟩
    · obtain rfl : k = m.length := by omega
      rw [List.getElem_append_right (by omega)]
      simp only [Nat.sub_self, List.getElem_cons_zero]
      exact .inl ⟨by simp, h2⟩

set_option maxRecDepth 100000 in
set_option maxHeartbeats 4000000 in
theorem lexKinds_any (nm : ByteArray) (w : World) (hn : nm.size ≤ 140737488351232) (hX : LaidX w) :
    Calls Tryd.prog 7 #[.string nm] w fun e w' => e = .returned (.bool true) ∧ Below w.heap.size w w' := by
  obtain ⟨s, hs0, hsl⟩ : ∃ s : Bt, Value.string nm = sv s ∧ s.length ≤ 281474976710656 := ⟨nm.data.toList, by show Value.string nm = Value.string ⟨nm.data.toList.toArray⟩; simp, by
    have e : nm.data.toList.length = nm.size := Array.length_toList
    omega⟩
  rw [hs0]
  clear hs0 hn
  have hsz := sv_size s
  go_enter Tryd.func7, Tryd.ntmps7
  go_wp2_with fail
  refine (awake_any _ hX).mono ?_
  rintro e w1 ⟨rfl, hb1⟩
  by_cases h5 : (5000 : Int) < s.length
  · go_wp2_with fail
    go_ret
    exact ⟨rfl, hb1⟩
  go_wp2_with fail
  refine (lex_any _ s (hX.below hb1)).mono ?_
  rintro e w2 ⟨v, n, rfl, hrow, hb2⟩
  have hB2 := bthen hb1 hb2
  have hsure := lexL_sure s (by omega)
  have hkinds := fun l hl => kinds_at s (by omega) (l := l) hl
  generalize lexL s = ans at *
  obtain ⟨toks, ln, cl, er⟩ := ans
  simp only at hsure hrow
  unfold diagV
  simp only []
  rcases hsure with ⟨_, her⟩ | ⟨l, hl, hpl⟩
  · clear hkinds
    go_wp2_with fail
    go_ret
    exact ⟨rfl, hB2.alloc hB2.size _⟩
  · have hlen0 : 1 ≤ l.length := by cases hpl <;> simp
    clear hpl
    have hk0 := hkinds l hl
    simp only [Prod.mk.injEq] at hl
    obtain ⟨rfl, rfl, rfl, rfl⟩ := hl
    clear hkinds
    generalize toks = l at *
    have hrl : n = l.length := by have := hrow.1; rw [tokCells_length] at this; omega
    subst hrl
    obtain ⟨g, c, rfl, _, hgl, _, hcm⟩ := own_form hrow (by omega)
    unfold maxLen at hcm
    have hr2 := hrow.alloc (.cells #[.int .i64 0, .int .i64 0, .int .i64 0, .int .i64 0] 26)
    have hB3 := hB2.alloc hB2.size (.cells #[.int .i64 0, .int .i64 0, .int .i64 0, .int .i64 0] 26)
    have HROW := hid hr2
    have HK := hid hk0
    clear hrow hr2 hk0 hb1 hb2 hB2
    go_wp2_with fail
    generalize w2.alloc (.cells #[.int .i64 0, .int .i64 0, .int .i64 0, .int .i64 0] 26) = w2' at *
    refine (lexwords_any _ (hX.below hB3)).mono ?_
    rintro e w3 ⟨vw, rfl, hss, hb3⟩
    have hB4 := bthen hB3 hb3
    have hrow3 := own_below HROW.out hb3
    have HROW3 := hid hrow3
    clear HROW hrow3 hb3 hB3
    obtain ⟨Aw, cw, rfl, hnw, hcw, hxw⟩ := hss.open_
    have hwl : wordsL.length = 25 := rfl
    obtain ⟨b, o, rfl, hbw, hcell⟩ := hxw (by rw [hwl]; omega)
    unfold maxLen at hcw
    rw [hwl]
    have HC := hid hcell
    have HWL := hid hwl
    clear hss hxw hcell hnw hwl
    go_wp2_with fail
    go_loopw [7, 8, 9, 10] (fun v7 v8 v9 v10 wr => ∃ k : Nat, v7 = .int .i64 k ∧ k ≤ l.length ∧ Below w3.heap.size w3 wr) (fun v7 _ _ _ _ => l.length - (intOf v7).toNat)
    case atStart => exact ⟨0, rfl, by omega, Below.refl _ _⟩
    case round =>
      obtain ⟨k, rfl, hk, hbr⟩ := hrel
      by_cases hlt : k < l.length
      · have hko := HK.out k hlt
        obtain ⟨d0, d1, d2, d3⟩ := tok_cells (own_below HROW3.out hbr) hlt
        generalize l[k] = T at *
        obtain ⟨kd, t, ln, cl⟩ := T
        simp only at hko d0 d1 d2 d3
        have HKO := hid hko
        have HD := hid d0
        have HD1 := hid d1
        have HD2 := hid d2
        have HD3 := hid d3
        clear hko d0 d1 d2 d3
        go_wp2_with fail
        obtain ⟨wq, hwq⟩ : ∃ wq, wq = wr := ⟨_, rfl⟩
        rw [← hwq] at HD HD1 HD2 HD3 hbr
        rw [← hwq]
        clear hwq
        go_loopw [8, 9] (fun v8 v9 wr => ∃ j : Nat, v9 = .int .i64 j ∧ j ≤ 25 ∧ v8 = .bool (decide (t ∈ wordsL.take j)) ∧ Below wq.heap.size wq wr) (fun _ v9 _ => 25 - (intOf v9).toNat)
        case atStart => exact ⟨0, rfl, by omega, by simp, Below.refl _ _⟩
        case round =>
          obtain ⟨j, rfl, hj, rfl, hbi⟩ := hrel
          have hwl := HWL.out
          by_cases hlt1 : j < 25
          · have hlt2 : (j : Int) < 25 := by omega
            have x1 := ((hbr.trans (hbi.mono hbr.size)).cell (p := ⟨b, o + j, none⟩) hbw).trans (HC.out j (by omega))
            have x2 := (hbi.cell (p := ⟨g, k * 4 + 1, none⟩) (cell_lt HD1.out)).trans HD1.out
            have hon : t ∈ wordsL.take j → decide (t ∈ wordsL.take (j + 1)) = true := fun h => by
              rw [decide_eq_true_eq, List.take_succ_eq_append_getElem (by omega), List.mem_append]; exact .inl h
            have heq : wordsL[j] = t → decide (t ∈ wordsL.take (j + 1)) = true := fun h => by
              rw [decide_eq_true_eq, List.take_succ_eq_append_getElem (by omega), List.mem_append]; exact .inr (by rw [List.mem_singleton]; exact h.symm)
            have hne : t ∉ wordsL.take j → wordsL[j] ≠ t → decide (t ∈ wordsL.take (j + 1)) = false := fun h h1 => by
              rw [decide_eq_false_iff_not]; exact not_take_succ (by omega) h (fun h => h1 h.symm)
            generalize wordsL[j] = X at *
            have hS0 : wr.drew.cell? ⟨b, o + j, none⟩ = some (sv X) ∧ wr.drew.cell? ⟨g, k * 4 + 1, none⟩ = some (sv t) := ⟨x1, x2⟩
            have hS1 : Below wq.heap.size wq wr.drew := hbi.trans ((below_drawn wr 1).mono hbi.size)
            by_cases hm : t ∈ wordsL.take j
            · have hv := hon hm
              rw [decide_eq_true hm]
              have HV := hid hv
              clear hv hon heq hne hm x1 x2
              go_wp2_with fail
              refine wp_region_held_drew (S := fun w' => w'.cell? ⟨b, o + j, none⟩ = some (sv X) ∧ w'.cell? ⟨g, k * 4 + 1, none⟩ = some (sv t)) (by kernel_rfl) hS0 (fun _ => ?_)
              try simp only [Act.put, List.getElem_toArray, List.getElem_cons_zero, List.getElem_cons_succ, List.setIfInBounds_toArray, List.set_cons_zero, List.set_cons_succ]
              refine wpAnyH_take (i := 0) (v := (.bool true)) rfl (by kernel_rfl) (by kernel_rfl) (by kernel_rfl) (fun _ _ _ h => h) (Or.inl ⟨by kernel_rfl, by intro w hSw; obtain ⟨hSw0, hSw1⟩ := hSw; go_simp⟩) hS0 ?_
              try simp only [Act.put, List.getElem_toArray, List.getElem_cons_zero, List.getElem_cons_succ, List.setIfInBounds_toArray, List.set_cons_zero, List.set_cons_succ]
              refine wpAnyH_take (i := 1) (v := (.bool true)) rfl (by kernel_rfl) (by kernel_rfl) (by kernel_rfl) (fun _ _ _ h => h) (Or.inl ⟨by kernel_rfl, by intro w hSw; obtain ⟨hSw0, hSw1⟩ := hSw; go_simp⟩) hS0 ?_
              try simp only [Act.put, List.getElem_toArray, List.getElem_cons_zero, List.getElem_cons_succ, List.setIfInBounds_toArray, List.set_cons_zero, List.set_cons_succ]
              refine wpAnyH_take (i := 2) (v := undef) rfl (by kernel_rfl) (by kernel_rfl) (by kernel_rfl) (fun _ _ _ h => h) (Or.inr ⟨by kernel_rfl, rfl⟩) hS0 ?_
              try simp only [Act.put, List.getElem_toArray, List.getElem_cons_zero, List.getElem_cons_succ, List.setIfInBounds_toArray, List.set_cons_zero, List.set_cons_succ]
              refine wpAnyH_take (i := 3) (v := undef) rfl (by kernel_rfl) (by kernel_rfl) (by kernel_rfl) (fun _ _ _ h => h) (Or.inr ⟨by kernel_rfl, rfl⟩) hS0 ?_
              try simp only [Act.put, List.getElem_toArray, List.getElem_cons_zero, List.getElem_cons_succ, List.setIfInBounds_toArray, List.set_cons_zero, List.set_cons_succ]
              refine wpAnyH_take (i := 4) (v := undef) rfl (by kernel_rfl) (by kernel_rfl) (by kernel_rfl) (fun _ _ _ h => h) (Or.inr ⟨by kernel_rfl, rfl⟩) hS0 ?_
              try simp only [Act.put, List.getElem_toArray, List.getElem_cons_zero, List.getElem_cons_succ, List.setIfInBounds_toArray, List.set_cons_zero, List.set_cons_succ]
              refine wpAnyH_take (i := 5) (v := undef) rfl (by kernel_rfl) (by kernel_rfl) (by kernel_rfl) (fun _ _ _ h => h) (Or.inr ⟨by kernel_rfl, rfl⟩) hS0 ?_
              try simp only [Act.put, List.getElem_toArray, List.getElem_cons_zero, List.getElem_cons_succ, List.setIfInBounds_toArray, List.set_cons_zero, List.set_cons_succ]
              refine wpAnyH_take (i := 6) (v := undef) rfl (by kernel_rfl) (by kernel_rfl) (by kernel_rfl) (fun _ _ _ h => h) (Or.inr ⟨by kernel_rfl, rfl⟩) hS0 ?_
              try simp only [Act.put, List.getElem_toArray, List.getElem_cons_zero, List.getElem_cons_succ, List.setIfInBounds_toArray, List.set_cons_zero, List.set_cons_succ]
              refine wpAnyH_take (i := 7) (v := undef) rfl (by kernel_rfl) (by kernel_rfl) (by kernel_rfl) (fun _ _ _ h => h) (Or.inr ⟨by kernel_rfl, rfl⟩) hS0 ?_
              try simp only [Act.put, List.getElem_toArray, List.getElem_cons_zero, List.getElem_cons_succ, List.setIfInBounds_toArray, List.set_cons_zero, List.set_cons_succ]
              refine wpAnyH_take (i := 8) (v := undef) rfl (by kernel_rfl) (by kernel_rfl) (by kernel_rfl) (fun _ _ _ h => h) (Or.inr ⟨by kernel_rfl, rfl⟩) hS0 ?_
              try simp only [Act.put, List.getElem_toArray, List.getElem_cons_zero, List.getElem_cons_succ, List.setIfInBounds_toArray, List.set_cons_zero, List.set_cons_succ]
              refine wpAnyH_take (i := 9) (v := undef) rfl (by kernel_rfl) (by kernel_rfl) (by kernel_rfl) (fun _ _ _ h => h) (Or.inr ⟨by kernel_rfl, rfl⟩) hS0 ?_
              try simp only [Act.put, List.getElem_toArray, List.getElem_cons_zero, List.getElem_cons_succ, List.setIfInBounds_toArray, List.set_cons_zero, List.set_cons_succ]
              refine wpAnyH_take (i := 10) (v := undef) rfl (by kernel_rfl) (by kernel_rfl) (by kernel_rfl) (fun _ _ _ h => h) (Or.inr ⟨by kernel_rfl, rfl⟩) hS0 ?_
              try simp only [Act.put, List.getElem_toArray, List.getElem_cons_zero, List.getElem_cons_succ, List.setIfInBounds_toArray, List.set_cons_zero, List.set_cons_succ]
              refine wpAnyH_take (i := 11) (v := undef) rfl (by kernel_rfl) (by kernel_rfl) (by kernel_rfl) (fun _ _ _ h => h) (Or.inr ⟨by kernel_rfl, rfl⟩) hS0 ?_
              try simp only [Act.put, List.getElem_toArray, List.getElem_cons_zero, List.getElem_cons_succ, List.setIfInBounds_toArray, List.set_cons_zero, List.set_cons_succ]
              refine wpAnyH_take (i := 12) (v := (.bool true)) rfl (by kernel_rfl) (by kernel_rfl) (by kernel_rfl) (fun _ _ _ h => h) (Or.inl ⟨by kernel_rfl, by intro w hSw; obtain ⟨hSw0, hSw1⟩ := hSw; go_simp⟩) hS0 ?_
              try simp only [Act.put, List.getElem_toArray, List.getElem_cons_zero, List.getElem_cons_succ, List.setIfInBounds_toArray, List.set_cons_zero, List.set_cons_succ]
              refine wpAnyH_take (i := 13) (v := (.bool true)) rfl (by kernel_rfl) (by kernel_rfl) (by kernel_rfl) (fun _ _ _ h => h) (Or.inl ⟨by kernel_rfl, by intro w hSw; obtain ⟨hSw0, hSw1⟩ := hSw; go_simp⟩) hS0 ?_
              try simp only [Act.put, List.getElem_toArray, List.getElem_cons_zero, List.getElem_cons_succ, List.setIfInBounds_toArray, List.set_cons_zero, List.set_cons_succ]
              refine wpAnyH_done (by kernel_rfl) ?_ _
              go_wp2_with fail
              go_roundw
              case rel => exact ⟨j + 1, rfl, by omega, by rw [HV.out], hS1⟩
              case measure => simp [intOf]; omega
            · rw [decide_eq_false hm]
              by_cases hq : X = t
              · have HV := hid (heq hq)
                have hq' : (X == t) = true := by rw [beq_iff_eq]; exact hq
                clear hon heq hne hm x1 x2 hq
                go_wp2_with fail
                refine wp_region_held_drew (S := fun w' => w'.cell? ⟨b, o + j, none⟩ = some (sv X) ∧ w'.cell? ⟨g, k * 4 + 1, none⟩ = some (sv t)) (by kernel_rfl) hS0 (fun _ => ?_)
                try simp only [Act.put, List.getElem_toArray, List.getElem_cons_zero, List.getElem_cons_succ, List.setIfInBounds_toArray, List.set_cons_zero, List.set_cons_succ]
                refine wpAnyH_take (i := 0) (v := (.bool false)) rfl (by kernel_rfl) (by kernel_rfl) (by kernel_rfl) (fun _ _ _ h => h) (Or.inl ⟨by kernel_rfl, by intro w hSw; obtain ⟨hSw0, hSw1⟩ := hSw; go_simp⟩) hS0 ?_
                try simp only [Act.put, List.getElem_toArray, List.getElem_cons_zero, List.getElem_cons_succ, List.setIfInBounds_toArray, List.set_cons_zero, List.set_cons_succ]
                refine wpAnyH_take (i := 1) (v := (.bool false)) rfl (by kernel_rfl) (by kernel_rfl) (by kernel_rfl) (fun _ _ _ h => h) (Or.inl ⟨by kernel_rfl, by intro w hSw; obtain ⟨hSw0, hSw1⟩ := hSw; go_simp⟩) hS0 ?_
                try simp only [Act.put, List.getElem_toArray, List.getElem_cons_zero, List.getElem_cons_succ, List.setIfInBounds_toArray, List.set_cons_zero, List.set_cons_succ]
                refine wpAnyH_take (i := 2) (v := (.slice (some ⟨b, o, none⟩) 25 cw)) rfl (by kernel_rfl) (by kernel_rfl) (by kernel_rfl) (fun _ _ _ h => h) (Or.inl ⟨by kernel_rfl, by intro w hSw; obtain ⟨hSw0, hSw1⟩ := hSw; go_simp⟩) hS0 ?_
                try simp only [Act.put, List.getElem_toArray, List.getElem_cons_zero, List.getElem_cons_succ, List.setIfInBounds_toArray, List.set_cons_zero, List.set_cons_succ]
                refine wpAnyH_take (i := 3) (v := (.int .i64 j)) rfl (by kernel_rfl) (by kernel_rfl) (by kernel_rfl) (fun _ _ _ h => h) (Or.inl ⟨by kernel_rfl, by intro w hSw; obtain ⟨hSw0, hSw1⟩ := hSw; go_simp⟩) hS0 ?_
                try simp only [Act.put, List.getElem_toArray, List.getElem_cons_zero, List.getElem_cons_succ, List.setIfInBounds_toArray, List.set_cons_zero, List.set_cons_succ]
                refine wpAnyH_take (i := 4) (v := (.pointer (some ⟨b, o + j, none⟩))) rfl (by kernel_rfl) (by kernel_rfl) (by kernel_rfl) (fun _ _ _ h => h) (Or.inl ⟨by kernel_rfl, by intro w hSw; obtain ⟨hSw0, hSw1⟩ := hSw; go_simp⟩) hS0 ?_
                try simp only [Act.put, List.getElem_toArray, List.getElem_cons_zero, List.getElem_cons_succ, List.setIfInBounds_toArray, List.set_cons_zero, List.set_cons_succ]
                refine wpAnyH_take (i := 5) (v := (sv X)) rfl (by kernel_rfl) (by kernel_rfl) (by kernel_rfl) (fun _ _ _ h => h) (Or.inl ⟨by kernel_rfl, by intro w hSw; obtain ⟨hSw0, hSw1⟩ := hSw; go_simp⟩) hS0 ?_
                try simp only [Act.put, List.getElem_toArray, List.getElem_cons_zero, List.getElem_cons_succ, List.setIfInBounds_toArray, List.set_cons_zero, List.set_cons_succ]
                refine wpAnyH_take (i := 6) (v := (.slice (some ⟨g, 0, none⟩) l.length c)) rfl (by kernel_rfl) (by kernel_rfl) (by kernel_rfl) (fun _ _ _ h => h) (Or.inl ⟨by kernel_rfl, by intro w hSw; obtain ⟨hSw0, hSw1⟩ := hSw; go_simp⟩) hS0 ?_
                try simp only [Act.put, List.getElem_toArray, List.getElem_cons_zero, List.getElem_cons_succ, List.setIfInBounds_toArray, List.set_cons_zero, List.set_cons_succ]
                refine wpAnyH_take (i := 7) (v := (.int .i64 k)) rfl (by kernel_rfl) (by kernel_rfl) (by kernel_rfl) (fun _ _ _ h => h) (Or.inl ⟨by kernel_rfl, by intro w hSw; obtain ⟨hSw0, hSw1⟩ := hSw; go_simp⟩) hS0 ?_
                try simp only [Act.put, List.getElem_toArray, List.getElem_cons_zero, List.getElem_cons_succ, List.setIfInBounds_toArray, List.set_cons_zero, List.set_cons_succ]
                refine wpAnyH_take (i := 8) (v := (.pointer (some ⟨g, k * 4, none⟩))) rfl (by kernel_rfl) (by kernel_rfl) (by kernel_rfl) (fun _ _ _ h => h) (Or.inl ⟨by kernel_rfl, by intro w hSw; obtain ⟨hSw0, hSw1⟩ := hSw; go_simp⟩) hS0 ?_
                try simp only [Act.put, List.getElem_toArray, List.getElem_cons_zero, List.getElem_cons_succ, List.setIfInBounds_toArray, List.set_cons_zero, List.set_cons_succ]
                refine wpAnyH_take (i := 9) (v := (.pointer (some ⟨g, k * 4 + 1, none⟩))) rfl (by kernel_rfl) (by kernel_rfl) (by kernel_rfl) (fun _ _ _ h => h) (Or.inl ⟨by kernel_rfl, by intro w hSw; obtain ⟨hSw0, hSw1⟩ := hSw; go_simp⟩) hS0 ?_
                try simp only [Act.put, List.getElem_toArray, List.getElem_cons_zero, List.getElem_cons_succ, List.setIfInBounds_toArray, List.set_cons_zero, List.set_cons_succ]
                refine wpAnyH_take (i := 10) (v := (sv t)) rfl (by kernel_rfl) (by kernel_rfl) (by kernel_rfl) (fun _ _ _ h => h) (Or.inl ⟨by kernel_rfl, by intro w hSw; obtain ⟨hSw0, hSw1⟩ := hSw; go_simp⟩) hS0 ?_
                try simp only [Act.put, List.getElem_toArray, List.getElem_cons_zero, List.getElem_cons_succ, List.setIfInBounds_toArray, List.set_cons_zero, List.set_cons_succ]
                refine wpAnyH_take (i := 11) (v := (.bool true)) rfl (by kernel_rfl) (by kernel_rfl) (by kernel_rfl) (fun _ _ _ h => h) (Or.inl ⟨by kernel_rfl, by intro w hSw; obtain ⟨hSw0, hSw1⟩ := hSw; go_simp⟩) hS0 ?_
                try simp only [Act.put, List.getElem_toArray, List.getElem_cons_zero, List.getElem_cons_succ, List.setIfInBounds_toArray, List.set_cons_zero, List.set_cons_succ]
                refine wpAnyH_take (i := 12) (v := (.bool true)) rfl (by kernel_rfl) (by kernel_rfl) (by kernel_rfl) (fun _ _ _ h => h) (Or.inl ⟨by kernel_rfl, by intro w hSw; obtain ⟨hSw0, hSw1⟩ := hSw; go_simp⟩) hS0 ?_
                try simp only [Act.put, List.getElem_toArray, List.getElem_cons_zero, List.getElem_cons_succ, List.setIfInBounds_toArray, List.set_cons_zero, List.set_cons_succ]
                refine wpAnyH_take (i := 13) (v := (.bool true)) rfl (by kernel_rfl) (by kernel_rfl) (by kernel_rfl) (fun _ _ _ h => h) (Or.inl ⟨by kernel_rfl, by intro w hSw; obtain ⟨hSw0, hSw1⟩ := hSw; go_simp⟩) hS0 ?_
                try simp only [Act.put, List.getElem_toArray, List.getElem_cons_zero, List.getElem_cons_succ, List.setIfInBounds_toArray, List.set_cons_zero, List.set_cons_succ]
                refine wpAnyH_done (by kernel_rfl) ?_ _
                go_wp2_with fail
                go_roundw
                case rel => exact ⟨j + 1, rfl, by omega, by rw [HV.out], hS1⟩
                case measure => simp [intOf]; omega
              · have HV := hid (hne hm hq)
                have hq' : (X == t) = false := by rw [beq_eq_false_iff_ne]; exact hq
                clear hon heq hne hm x1 x2 hq
                go_wp2_with fail
                refine wp_region_held_drew (S := fun w' => w'.cell? ⟨b, o + j, none⟩ = some (sv X) ∧ w'.cell? ⟨g, k * 4 + 1, none⟩ = some (sv t)) (by kernel_rfl) hS0 (fun _ => ?_)
                try simp only [Act.put, List.getElem_toArray, List.getElem_cons_zero, List.getElem_cons_succ, List.setIfInBounds_toArray, List.set_cons_zero, List.set_cons_succ]
                refine wpAnyH_take (i := 0) (v := (.bool false)) rfl (by kernel_rfl) (by kernel_rfl) (by kernel_rfl) (fun _ _ _ h => h) (Or.inl ⟨by kernel_rfl, by intro w hSw; obtain ⟨hSw0, hSw1⟩ := hSw; go_simp⟩) hS0 ?_
                try simp only [Act.put, List.getElem_toArray, List.getElem_cons_zero, List.getElem_cons_succ, List.setIfInBounds_toArray, List.set_cons_zero, List.set_cons_succ]
                refine wpAnyH_take (i := 1) (v := (.bool false)) rfl (by kernel_rfl) (by kernel_rfl) (by kernel_rfl) (fun _ _ _ h => h) (Or.inl ⟨by kernel_rfl, by intro w hSw; obtain ⟨hSw0, hSw1⟩ := hSw; go_simp⟩) hS0 ?_
                try simp only [Act.put, List.getElem_toArray, List.getElem_cons_zero, List.getElem_cons_succ, List.setIfInBounds_toArray, List.set_cons_zero, List.set_cons_succ]
                refine wpAnyH_take (i := 2) (v := (.slice (some ⟨b, o, none⟩) 25 cw)) rfl (by kernel_rfl) (by kernel_rfl) (by kernel_rfl) (fun _ _ _ h => h) (Or.inl ⟨by kernel_rfl, by intro w hSw; obtain ⟨hSw0, hSw1⟩ := hSw; go_simp⟩) hS0 ?_
                try simp only [Act.put, List.getElem_toArray, List.getElem_cons_zero, List.getElem_cons_succ, List.setIfInBounds_toArray, List.set_cons_zero, List.set_cons_succ]
                refine wpAnyH_take (i := 3) (v := (.int .i64 j)) rfl (by kernel_rfl) (by kernel_rfl) (by kernel_rfl) (fun _ _ _ h => h) (Or.inl ⟨by kernel_rfl, by intro w hSw; obtain ⟨hSw0, hSw1⟩ := hSw; go_simp⟩) hS0 ?_
                try simp only [Act.put, List.getElem_toArray, List.getElem_cons_zero, List.getElem_cons_succ, List.setIfInBounds_toArray, List.set_cons_zero, List.set_cons_succ]
                refine wpAnyH_take (i := 4) (v := (.pointer (some ⟨b, o + j, none⟩))) rfl (by kernel_rfl) (by kernel_rfl) (by kernel_rfl) (fun _ _ _ h => h) (Or.inl ⟨by kernel_rfl, by intro w hSw; obtain ⟨hSw0, hSw1⟩ := hSw; go_simp⟩) hS0 ?_
                try simp only [Act.put, List.getElem_toArray, List.getElem_cons_zero, List.getElem_cons_succ, List.setIfInBounds_toArray, List.set_cons_zero, List.set_cons_succ]
                refine wpAnyH_take (i := 5) (v := (sv X)) rfl (by kernel_rfl) (by kernel_rfl) (by kernel_rfl) (fun _ _ _ h => h) (Or.inl ⟨by kernel_rfl, by intro w hSw; obtain ⟨hSw0, hSw1⟩ := hSw; go_simp⟩) hS0 ?_
                try simp only [Act.put, List.getElem_toArray, List.getElem_cons_zero, List.getElem_cons_succ, List.setIfInBounds_toArray, List.set_cons_zero, List.set_cons_succ]
                refine wpAnyH_take (i := 6) (v := (.slice (some ⟨g, 0, none⟩) l.length c)) rfl (by kernel_rfl) (by kernel_rfl) (by kernel_rfl) (fun _ _ _ h => h) (Or.inl ⟨by kernel_rfl, by intro w hSw; obtain ⟨hSw0, hSw1⟩ := hSw; go_simp⟩) hS0 ?_
                try simp only [Act.put, List.getElem_toArray, List.getElem_cons_zero, List.getElem_cons_succ, List.setIfInBounds_toArray, List.set_cons_zero, List.set_cons_succ]
                refine wpAnyH_take (i := 7) (v := (.int .i64 k)) rfl (by kernel_rfl) (by kernel_rfl) (by kernel_rfl) (fun _ _ _ h => h) (Or.inl ⟨by kernel_rfl, by intro w hSw; obtain ⟨hSw0, hSw1⟩ := hSw; go_simp⟩) hS0 ?_
                try simp only [Act.put, List.getElem_toArray, List.getElem_cons_zero, List.getElem_cons_succ, List.setIfInBounds_toArray, List.set_cons_zero, List.set_cons_succ]
                refine wpAnyH_take (i := 8) (v := (.pointer (some ⟨g, k * 4, none⟩))) rfl (by kernel_rfl) (by kernel_rfl) (by kernel_rfl) (fun _ _ _ h => h) (Or.inl ⟨by kernel_rfl, by intro w hSw; obtain ⟨hSw0, hSw1⟩ := hSw; go_simp⟩) hS0 ?_
                try simp only [Act.put, List.getElem_toArray, List.getElem_cons_zero, List.getElem_cons_succ, List.setIfInBounds_toArray, List.set_cons_zero, List.set_cons_succ]
                refine wpAnyH_take (i := 9) (v := (.pointer (some ⟨g, k * 4 + 1, none⟩))) rfl (by kernel_rfl) (by kernel_rfl) (by kernel_rfl) (fun _ _ _ h => h) (Or.inl ⟨by kernel_rfl, by intro w hSw; obtain ⟨hSw0, hSw1⟩ := hSw; go_simp⟩) hS0 ?_
                try simp only [Act.put, List.getElem_toArray, List.getElem_cons_zero, List.getElem_cons_succ, List.setIfInBounds_toArray, List.set_cons_zero, List.set_cons_succ]
                refine wpAnyH_take (i := 10) (v := (sv t)) rfl (by kernel_rfl) (by kernel_rfl) (by kernel_rfl) (fun _ _ _ h => h) (Or.inl ⟨by kernel_rfl, by intro w hSw; obtain ⟨hSw0, hSw1⟩ := hSw; go_simp⟩) hS0 ?_
                try simp only [Act.put, List.getElem_toArray, List.getElem_cons_zero, List.getElem_cons_succ, List.setIfInBounds_toArray, List.set_cons_zero, List.set_cons_succ]
                refine wpAnyH_take (i := 11) (v := (.bool false)) rfl (by kernel_rfl) (by kernel_rfl) (by kernel_rfl) (fun _ _ _ h => h) (Or.inl ⟨by kernel_rfl, by intro w hSw; obtain ⟨hSw0, hSw1⟩ := hSw; go_simp⟩) hS0 ?_
                try simp only [Act.put, List.getElem_toArray, List.getElem_cons_zero, List.getElem_cons_succ, List.setIfInBounds_toArray, List.set_cons_zero, List.set_cons_succ]
                refine wpAnyH_take (i := 12) (v := (.bool false)) rfl (by kernel_rfl) (by kernel_rfl) (by kernel_rfl) (fun _ _ _ h => h) (Or.inl ⟨by kernel_rfl, by intro w hSw; obtain ⟨hSw0, hSw1⟩ := hSw; go_simp⟩) hS0 ?_
                try simp only [Act.put, List.getElem_toArray, List.getElem_cons_zero, List.getElem_cons_succ, List.setIfInBounds_toArray, List.set_cons_zero, List.set_cons_succ]
                refine wpAnyH_take (i := 13) (v := (.bool false)) rfl (by kernel_rfl) (by kernel_rfl) (by kernel_rfl) (fun _ _ _ h => h) (Or.inl ⟨by kernel_rfl, by intro w hSw; obtain ⟨hSw0, hSw1⟩ := hSw; go_simp⟩) hS0 ?_
                try simp only [Act.put, List.getElem_toArray, List.getElem_cons_zero, List.getElem_cons_succ, List.setIfInBounds_toArray, List.set_cons_zero, List.set_cons_succ]
                refine wpAnyH_done (by kernel_rfl) ?_ _
                go_wp2_with fail
                go_roundw
                case rel => exact ⟨j + 1, rfl, by omega, by rw [HV.out], hS1⟩
                case measure => simp [intOf]; omega
          · have hlt2 : ¬ (j : Int) < 25 := by omega
            rw [List.take_of_length_le (show wordsL.length ≤ j by omega)]
            have d0 := (hbi.cell (p := ⟨g, k * 4, none⟩) (cell_lt HD.out)).trans HD.out
            have d1 := (hbi.cell (p := ⟨g, k * 4 + 1, none⟩) (cell_lt HD1.out)).trans HD1.out
            have d2 := (hbi.cell (p := ⟨g, k * 4 + 2, none⟩) (cell_lt HD2.out)).trans HD2.out
            have d3 := (hbi.cell (p := ⟨g, k * 4 + 3, none⟩) (cell_lt HD3.out)).trans HD3.out
            have hBI : Below w3.heap.size w3 wr := hbr.trans (hbi.mono hbr.size)
            have hst := sv_size t
            rcases HKO.out with ⟨hk1, rfl⟩ | ⟨hk1, k1, k2, k3, k4, k5, k6⟩
            · have hkl : ((k : Int) == (l.length : Int) - 1) = true := by rw [beq_iff_eq]; omega
              have hw1 : IntKind.i64.wrap ((l.length : Int) - 1) = (l.length : Int) - 1 := by rw [i64_wrap]; exact wrap64_id (by unfold In64; omega)
              clear HKO
              go_wp2_with fail
              go_roundw
              case rel => exact ⟨k + 1, rfl, by omega, hBI.alloc hBI.size _⟩
              case measure => simp [intOf]; omega
            · have hkl : ((k : Int) == (l.length : Int) - 1) = false := by rw [beq_eq_false_iff_ne]; omega
              have hw1 : IntKind.i64.wrap ((l.length : Int) - 1) = (l.length : Int) - 1 := by rw [i64_wrap]; exact wrap64_id (by unfold In64; omega)
              have hkd : kd = 1 ∨ kd = 2 ∨ kd = 3 ∨ kd = 4 ∨ kd = 5 := by omega
              clear HKO k1 k2
              rcases hkd with rfl | rfl | rfl | rfl | rfl
              · have hnm := k4 rfl
                have htl : t.length ≤ 281474976710656 := by
                  cases t with
                  | nil => simp
                  | cons x y =>
                    unfold nameL at hnm
                    simp only [Bool.and_eq_true, decide_eq_true_eq] at hnm
                    omega
                clear k3 k4 k5 k6
                go_wp2_with fail
                refine (name_any _ t (hX.below (hB4.trans ((hBI.alloc hBI.size _).mono hB4.size))) htl).mono ?_
                rintro e w5 ⟨rfl, hb5⟩
                rw [hnm]
                have hB6 := (hBI.alloc hBI.size (.cells #[.int .i64 1, sv t, .int .i64 (ln : Nat), .int .i64 (cl : Nat)] 32)).trans (hb5.mono (le_alloc hBI.size _))
                have hd6 := block_turn (heap_alloc_new wr (.cells #[.int .i64 1, sv t, .int .i64 (ln : Nat), .int .i64 (cl : Nat)] 32)) (Turn.of_below (F := fun _ => False) hb5) id
                have f0 : w5.cell? ⟨wr.heap.size, 0, none⟩ = some (.int .i64 1) := (cell_of_row _ _ _ _ _ (0, 0) hd6).trans rfl
                have f1 : w5.cell? ⟨wr.heap.size, 1, none⟩ = some (sv t) := (cell_of_row _ _ _ _ _ (0, 0) hd6).trans rfl
                go_wp2_with fail
                go_roundw
                case rel => exact ⟨k + 1, rfl, by omega, hB6⟩
                case measure => simp [intOf]; omega
              · have hm : decide (t ∈ wordsL) = true := by rw [decide_eq_true_eq]; exact k3 rfl
                rw [hm]
                clear k3 k4 k5 k6 hm
                go_wp2_with fail
                go_roundw
                case rel => exact ⟨k + 1, rfl, by omega, hBI.alloc hBI.size _⟩
                case measure => simp [intOf]; omega
              · obtain ⟨x, y, rfl, hdg⟩ := k5 rfl
                have hix := sv_index (x :: y) 0 (by simp)
                rw [List.getElem_cons_zero] at hix
                unfold digitB at hdg
                simp only [Bool.and_eq_true, decide_eq_true_eq] at hdg
                obtain ⟨z1, z2⟩ := hdg
                have hl0 : ((y.length : Int) + 1 == 0) = false := by rw [beq_eq_false_iff_ne]; omega
                have hl1 : (0 : Int) < (y.length : Int) + 1 := by omega
                clear k3 k4 k5 k6
                go_wp2_with fail
                go_roundw
                case rel => exact ⟨k + 1, rfl, by omega, hBI.alloc hBI.size _⟩
                case measure => simp [intOf]; omega
              · clear k3 k4 k5 k6
                go_wp2_with fail
                go_roundw
                case rel => exact ⟨k + 1, rfl, by omega, hBI.alloc hBI.size _⟩
                case measure => simp [intOf]; omega
              · obtain ⟨z1, z2⟩ := k6 rfl
                clear k3 k4 k5 k6
                go_wp2_with fail
                go_roundw
                case rel => exact ⟨k + 1, rfl, by omega, hBI.alloc hBI.size _⟩
                case measure => simp [intOf]; omega
      · obtain rfl : k = l.length := by omega
        have hpos : (0 : Int) < l.length := by omega
        go_wp2_with fail
        go_ret
        exact ⟨by simp; omega, hB4.trans (hbr.mono hB4.size)⟩
end Go.Proofs.YtpgngegdflbahaaDoor
