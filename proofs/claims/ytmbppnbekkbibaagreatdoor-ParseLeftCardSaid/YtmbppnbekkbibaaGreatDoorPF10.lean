/- FY, HB, HE, HD, HF -/
import Derived.Test.YtmbppnbekkbibaaGreatDoorPF09
import Derived.Test.YtmbppnbekkbibaaGreatDoorPF04
set_option linter.unusedSimpArgs false
set_option linter.unusedVariables false
section
/- The contract of expr. -/
set_option linter.unusedVariables false
namespace Go.Proofs.YtmbppnbekkbibaaGreatDoor
open Go.RowKit

set_option maxRecDepth 100000 in
set_option maxHeartbeats 8000000 in
theorem expr_step (d : Int) (h0 : 0 ≤ d) (h1 : d < 100) (typ : Ps TyD) (expr unary : Ps NoD) (hst : Sf typ) (HTY : TypC (d + 1) typ) (HEX : ExprC (d + 1) expr) (HR : RankC (d + 1) 0 (rankF typ unary 6)) : ExprC d (exprP typ expr unary) := by
  intro w bp B ts h
  have hlt := h.lt
  have hB := h.1
  obtain ⟨Q, hQ⟩ : ∃ Q, exprP typ expr unary ts = Q := ⟨_, rfl⟩
  rw [hQ]
  obtain ⟨t0, ht0⟩ : ∃ t0, nextP ts = t0 := ⟨_, rfl⟩
  have HQ : Hid (thenP (takeP [[108, 101, 116], [105, 102], [102, 110]]) (fun i => match i with
    | none => rankF typ unary 6
    | some 0 => thenP nameP fun s => thenP (noteR typ [] []) fun t => thenP (kidsP expr [[61], [59]] []) fun k => retP (nodeD 5 s 0 t0 t [] k)
    | some 1 => thenP (kidsP expr [[], [116, 104, 101, 110], [101, 108, 115, 101]] []) fun k => retP (nodeD 11 [] 0 t0 [] [] k)
    | some _ => thenP (headP typ []) fun s => thenP (kidsP expr [[61, 62]] []) fun k => retP (nodeD 6 s.1 0 t0 s.2 [] k)) ts = Q) := hid (by subst ht0; exact hQ)
  have HE := hid (enter_any (w.alloc (.cells #[.int .i64 0, .string ⟨#[]⟩, .int .i64 0, .int .i64 0, .int .i64 0, .slice none 0 0, .slice none 0 0, .slice none 0 0] 49)) bp B ts d (h.below (new1 _ _)) h0 h1)
  clear h hQ
  go_enter_defers Tryz.func49, Tryz.ntmps49
  go_wp2_with fail
  refine (HE.out).mono ?_
  rintro e w1 ⟨rfl, tn, hbx, hk⟩
  obtain ⟨tm, hsz, hrs⟩ := after1 tn
  simp at hbx
  have hxb := World.block_lt_of_cell? _ _ hbx
  simp at hxb
  have HRS1 := hid (hrs (by omega))
  have HT1 := hid tm
  have HK1 := hid hk
  have HBX1 := hid hbx
  have HH := hid (here_any (d + 1) w1 bp B ts hk 0)
  rw [ht0] at HH
  clear tn tm hrs hk hbx ht0
  go_wp2_with fail
  refine (HH.out).mono ?_
  rintro e w2 ⟨rfl, hb2⟩
  have hs2 := hb2.size
  have t2 := Turn.of_below (F := fun k => k = bp) hb2
  have HT2 := hid (turn_bp HT1.out t2)
  have HK2 := hid (HK1.out.below hb2)
  have HBX2 := hid (tcell HBX1.out t2 (by omega))
  have HRS2 := hid (block_turn HRS1.out t2 (by omega))
  have HC := hid (take_lit (w2.alloc (.cells (nodeC 0 t0) 49)) bp B ts (d + 1) (HK2.out.below (new1 _ _)) [[108, 101, 116], [105, 102], [102, 110]] #[.string ⟨#[108, 101, 116]⟩, .string ⟨#[105, 102]⟩, .string ⟨#[102, 110]⟩] 9 3 (w2.heap.size + 1))
  clear hb2 t2
  go_wp2_with fail
  refine (HC.out).mono ?_
  rintro e w3 h3
  rcases hq : takeP [[108, 101, 116], [105, 102], [102, 110]] ts with g | ⟨o, r3⟩
  · exact (takeP_good hq).elim
  · obtain ⟨v3, rfl, tn, rfl, kn⟩ := h3.good_ hq
    obtain ⟨tm, hs3, hnb⟩ := after1 tn
    have HT3 := hid (turn_bp HT2.out tm)
    have HK3 := hid kn
    have HBX3 := hid (tcell HBX2.out tm (by omega))
    have HRS3 := hid (block_turn HRS2.out tm (by omega))
    have hnb3 := hnb (by omega)
    have HNB3 := hid hnb3
    have HQ3 := hid hq
    have hnr1 : ¬ w2.heap.size = w.heap.size := by omega
    have hnr2 : ¬ w.heap.size = w2.heap.size := by omega
    obtain ⟨m0, m1, m2, m3, m4, m5, m6, m7, mz⟩ := cells8 hnb3
    clear h3 tn tm kn hnb hq hnb3
    rcases o with _ | i
    · have HQ4 : Hid (rankF typ unary 6 r3 = Q) := hid ((thenP_good HQ3.out).symm.trans HQ.out)
      have HP := hid (HR w3 bp B r3 HK3.out)
      go_wp2_with fail
      refine (HP.out).mono ?_
      rintro e w4 h4
      rcases hq : rankF typ unary 6 r3 with g | ⟨x, r4⟩
      · obtain ⟨rfl, tn, bn⟩ := h4.bad_ hq
        have HOB := hid (turn_bp HT3.out tn)
        have HQB := hid (HQ4.out.symm.trans hq)
        have hxo := tcell HBX3.out tn (by omega)
        have HBN := hid bn
        clear h4 tn bn hq
        go_wp2_with fail
        exact out_bad HBN.out hxo HOB.out HQB.out
      · obtain ⟨v4, rfl, tn, ⟨z4, rfl, hz⟩, kn⟩ := h4.good_ hq
        obtain ⟨k4, s4, n4, l4, o4, A14, n14, c14, A24, n24, c24, A34, n34, c34, rfl⟩ := hz.shape'
        have hs4 := tn.size
        have HT4 := hid (turn_bp HT3.out tn)
        have HK4 := hid kn
        have HBX4 := hid (tcell HBX3.out tn (by omega))
        have HRS4 := hid (block_turn HRS3.out tn (by omega))
        have HZ4 := hid hz.iv
        have HQ5 := hid (HQ4.out.symm.trans hq)
        obtain ⟨c0, c1, c2, c3, c4, c5, c6, c7, cz⟩ := cells8 HRS4.out
        clear h4 tn hz kn hq
        go_wp2_with fail
        have tF := put8_turn w4 w.heap.size (.int .i64 k4) (sv s4) (.int .i64 n4) (.int .i64 l4) (.int .i64 o4) (.slice A14 n14 c14) (.slice A24 n24 c24) (.slice A34 n34 c34)
        exact out_good (fun w9 t9 => res_cell rfl rfl (block_turn (put8_block HRS4.out _ _ _ _ _ _ _ _) t9 (by omega)) Tryz.underlying49 rfl (by kernel_rfl)) (HK4.out.put8_ (by omega)) h0 h1 (tcell HBX4.out tF (by omega)) (new_turn8 HT4.out (by omega)) HQ5.out
          (fun w9 t9 => ⟨[.int .i64 k4, sv s4, .int .i64 n4, .int .i64 l4, .int .i64 o4, .slice A14 n14 c14, .slice A24 n24 c24, .slice A34 n34 c34], rfl, ((HZ4.out.turn tF (fun g _ h e => by have := h.1; omega)).turn t9 (fun g _ h e => by have := h.1; omega)).mono (fun g _ h => by have := h.1; omega)⟩)
    · have hi := takeP_lt HQ3.out
      simp only [List.length_cons, List.length_nil] at hi
      obtain rfl | rfl | rfl : i = 0 ∨ i = 1 ∨ i = 2 := by omega
      · have HQ4 : Hid (thenP nameP (fun s => thenP (noteR typ [] []) fun t => thenP (kidsP expr [[61], [59]] []) fun k => retP (nodeD 5 s 0 t0 t [] k)) r3 = Q) := hid ((thenP_good HQ3.out).symm.trans HQ.out)
        have HN := hid (pname_any w3 bp B r3 (d + 1) HK3.out)
        go_wp2_with fail
        refine (HN.out).mono ?_
        rintro e w4 h4
        rcases hq : nameP r3 with g | ⟨s, r4⟩
        · obtain ⟨rfl, tn, bn⟩ := h4.bad_ hq
          have HOB := hid (turn_bp HT3.out tn)
          have HQB := hid (HQ4.out.symm.trans (thenP_bad hq))
          have hxo := tcell HBX3.out tn (by omega)
          have HBN := hid bn
          clear h4 tn bn hq
          go_wp2_with fail
          exact out_bad HBN.out hxo HOB.out HQB.out
        · obtain ⟨v4, rfl, tn, rfl, kn⟩ := h4.good_ hq
          have hs4 := tn.size
          have hnb4 := block_turn HNB3.out tn (by omega)
          have t5 := (turn_set w4 w2.heap.size 0 (.int .i64 5)).trans (turn_set _ w2.heap.size 1 (sv s)) (fun _ _ h => h)
          have HNB5 := hid (heap_setCell_same _ _ 1 _ _ (sv s) (heap_setCell_same _ _ 0 _ _ (.int .i64 5) hnb4))
          have HK5 := hid (kn.turn t5 (by omega) (fun k hk e => by have := HK3.out.1; omega))
          have HT5 := hid ((turn_bp HT3.out tn).trans t5 (fun i hi e => by omega))
          have HBX5 := hid (tcell (tcell HBX3.out tn (by omega)) t5 (by omega))
          have HRS5 := hid (block_turn (block_turn HRS3.out tn (by omega)) t5 (by omega))
          have hs5 := t5.size
          have HQ5 : Hid (thenP (noteR typ [] []) (fun t => thenP (kidsP expr [[61], [59]] []) fun k => retP (nodeD 5 s 0 t0 t [] k)) r4 = Q) := hid ((thenP_good hq).symm.trans HQ4.out)
          have HNT := hid (pnote_any (d + 1) typ HTY hst _ bp B (w2.heap.size + 1) r4 HK5.out (.slice none 0 0) (.slice none 0 0) [] [] [] (RowG.nil _ _ _ _ _ _) (SlG.nil _ _ _) .nil (by simp) (by simp) (by omega) (by omega))
          obtain ⟨n0, n1, n2, n3, n4, n5, n6, n7, nz⟩ := cells8 hnb4
          clear h4 tn kn hq hnb4 t5
          go_wp2_with fail
          refine (HNT.out).mono ?_
          rintro e w6 h6
          rcases hq : noteR typ [] [] r4 with g | ⟨lt, r6⟩
          · obtain ⟨rfl, tn, bn⟩ := h6.bad_ hq
            have tn := tn.mono (G := fun k => k = bp) (fun k _ h => by rcases h with h | h; exact h; cases h)
            have HOB := hid (turn_bp HT5.out tn)
            have HQB := hid (HQ5.out.symm.trans (thenP_bad hq))
            have hxo := tcell HBX5.out tn (by omega)
            have HBN := hid bn
            clear h6 tn bn hq
            go_wp2_with fail
            exact out_bad HBN.out hxo HOB.out HQB.out
          · obtain ⟨v6, rfl, tn, hr6, kn⟩ := h6.good_ hq
            have tn := tn.mono (G := fun k => k = bp) (fun k _ h => by rcases h with h | h; exact h; cases h)
            have hs6 := tn.size
            obtain ⟨A6, cq, hv6, _, _⟩ := hr6.shape
            subst hv6
            have hnb6 := block_turn HNB5.out tn (by omega)
            have t7 := turn_set w6 w2.heap.size 5 (.slice A6 lt.length cq)
            have HNB7 := hid (show (w6.setCell ⟨w2.heap.size, 5, none⟩ (.slice A6 lt.length cq)).heap[w2.heap.size]? = some (.cells #[.int .i64 5, sv s, .int .i64 0, .int .i64 (t0.line : Nat), .int .i64 (t0.col : Nat), .slice A6 lt.length cq, .slice none 0 0, .slice none 0 0] 49 (0, 0)) from heap_setCell_same _ _ 5 _ _ (.slice A6 lt.length cq) hnb6)
            have HK7 := hid (kn.turn t7 (by omega) (fun k hk e => by have := HK3.out.1; omega))
            have HT7 := hid ((turn_bp HT5.out tn).trans t7 (fun i hi e => by omega))
            have HBX7 := hid (tcell (tcell HBX5.out tn (by omega)) t7 (by omega))
            have HRS7 := hid (block_turn (block_turn HRS5.out tn (by omega)) t7 (by omega))
            have HTT7 := hid (hr6.turn foot_ty t7 (fun g hg e => by have := (hr6.lt g hg).1; omega) (fun g _ hg e => by omega))
            have hs7 := t7.size
            have HQ7 : Hid (thenP (kidsP expr [[61], [59]] []) (fun k => retP (nodeD 5 s 0 t0 lt [] k)) r6 = Q) := hid ((thenP_good hq).symm.trans HQ5.out)
            obtain ⟨n0, n1, n2, n3, n4, n5, n6, n7, nz⟩ := cells8 (show w6.heap[w2.heap.size]? = some (.cells #[.int .i64 5, sv s, .int .i64 0, .int .i64 (t0.line : Nat), .int .i64 (t0.col : Nat), .slice none 0 0, .slice none 0 0, .slice none 0 0] 49 (0, 0)) from hnb6)
            clear h6 tn hr6 kn hq hnb6 t7
            have hsc : (w6.setCell ⟨w2.heap.size, 5, none⟩ (.slice A6 lt.length cq)).heap.size = w6.heap.size := by simp
            have HKC := hid (kids_any (d + 1) expr HEX ((w6.setCell ⟨w2.heap.size, 5, none⟩ (.slice A6 lt.length cq)).alloc (.cells #[.string ⟨#[61]⟩, .string ⟨#[59]⟩] 9)) bp B w2.heap.size (w2.heap.size + 1) (fun j => w2.heap.size + 1 ≤ j) r6 (HK7.out.below (new1 _ _)) (.int .i64 5) (sv s) (.int .i64 0) (.int .i64 (t0.line : Nat)) (.int .i64 (t0.col : Nat)) (.slice A6 lt.length cq) (.slice none 0 0) (.slice none 0 0) [] (keep_alloc HNB7.out) (RowG.nil _ _ _ _ _ _) (.slice (some ⟨(w6.setCell ⟨w2.heap.size, 5, none⟩ (.slice A6 lt.length cq)).heap.size, 0, none⟩) 2 2) [[61], [59]] ((slG_new (w6.setCell ⟨w2.heap.size, 5, none⟩ (.slice A6 lt.length cq)) #[.string ⟨#[61]⟩, .string ⟨#[59]⟩] 9 1 2 rfl (by decide)).mono (fun g _ h => ⟨by omega, by omega, fun e => by cases e⟩)) (by decide) (by simp) (by omega) (by omega) (by simp; omega) (by omega) (by omega) (fun j hj => by simp at hj; omega))
            rw [hsc] at HKC
            go_wp2_with fail
            refine (HKC.out).mono ?_
            rintro e w8 h8
            rcases hq : kidsP expr [[61], [59]] [] r6 with g | ⟨ks, r8⟩
            · obtain ⟨rfl, tn, bn⟩ := h8.bad_ hq
              have tn := (after1 tn).1
              have hxo := tcell HBX7.out tn (fun e => by rcases e with e | e | e; omega; omega; cases e)
              have HOB := hid (HT7.out.trans tn (fun i hi e => by rcases e with e | e | e; exact e; omega; cases e))
              have HQB := hid (HQ7.out.symm.trans (thenP_bad hq))
              have HBN := hid bn
              clear h8 tn bn hq
              go_wp2_with fail
              exact out_bad HBN.out hxo HOB.out HQB.out
            · obtain ⟨rfl, tn, ⟨vk, hb8, hr8⟩, kn⟩ := h8.good_ hq
              have tk := (after1 tn).1
              have hs8 := tk.size
              have HT8 := hid (HT7.out.trans tk (fun i hi e => by rcases e with e | e | e; exact e; omega; cases e))
              have HBX8 := hid (tcell HBX7.out tk (fun e => by rcases e with e | e | e; omega; omega; cases e))
              have HRS8 := hid (block_turn HRS7.out tk (fun e => by rcases e with e | e | e; omega; omega; cases e))
              have HK8 := hid kn
              have HR8 := hid hr8
              have HB8 := hid hb8
              have HTT8 := hid (HTT7.out.turn foot_ty tk (fun g hg e => by have := (HTT7.out.lt g hg).1; rcases e with e | e | e; omega; omega; cases e) (fun g _ hg e => by rcases e with e | e | e; omega; omega; cases e))
              obtain ⟨yst, y1, y2⟩ := HTT8.out.sl foot_ty
              have HY1 := hid y1
              have HY2 := hid y2
              clear y1 y2
              have HQ8 : Hid (Pr.good (nodeD 5 s 0 t0 lt [] ks) r8 = Q) := hid ((thenP_good hq).symm.trans HQ7.out)
              obtain ⟨A8, c8, hv8, _, _⟩ := hr8.shape
              subst hv8
              obtain ⟨f0, f1, f2, f3, f4, f5, f6, f7, fz⟩ := cells8 hb8
              obtain ⟨c0, c1, c2, c3, c4, c5, c6, c7, cz⟩ := cells8 HRS8.out
              clear h8 tn tk hb8 hr8 kn hq
              go_wp2_with fail
              have tF := put8_turn w8 w.heap.size (.int .i64 5) (sv s) (.int .i64 0) (.int .i64 (t0.line : Nat)) (.int .i64 (t0.col : Nat)) (.slice A6 lt.length cq) (.slice none 0 0) (.slice A8 ks.length c8)
              obtain ⟨xs, q1, q2⟩ := HR8.out.sl foot_no
              exact out_good (fun w9 t9 => res_cell rfl rfl (block_turn (put8_block HRS8.out _ _ _ _ _ _ _ _) t9 (by omega)) Tryz.underlying49 rfl (by kernel_rfl)) (HK8.out.put8_ (by omega)) h0 h1 (tcell HBX8.out tF (by omega)) (new_turn8 HT8.out (by omega)) HQ8.out.symm
                (fun w9 t9 => ⟨_, rfl, .mk (((HY1.out.turn tF (fun g _ h e => by rcases h with h | h <;> omega)).turn t9 (fun g _ h e => by rcases h with h | h <;> omega)).mono (fun g _ h => by rcases h with h | h <;> omega)) (tys_row (row_mono foot_ty (fun g _ h => by rcases h with h | h <;> omega) (row_turn foot_ty t9 (fun g _ h e => by rcases h with h | h <;> omega) (row_turn foot_ty tF (fun g _ h e => by rcases h with h | h <;> omega) HY2.out)))) (SlG.nil _ _ _) (((q1.turn tF (fun g _ h e => by rcases h with h | h <;> omega)).turn t9 (fun g _ h e => by rcases h with h | h <;> omega)).mono (fun g _ h => by rcases h with h | h <;> omega)) (nos_row (row_mono foot_no (fun g _ h => by rcases h with h | h <;> omega) (row_turn foot_no t9 (fun g _ h e => by rcases h with h | h <;> omega) (row_turn foot_no tF (fun g _ h e => by rcases h with h | h <;> omega) q2))))⟩)
      · have HQ4 : Hid (thenP (kidsP expr [[], [116, 104, 101, 110], [101, 108, 115, 101]] []) (fun k => retP (nodeD 11 [] 0 t0 [] [] k)) r3 = Q) := hid ((thenP_good HQ3.out).symm.trans HQ.out)
        have t4 := turn_set w3 w2.heap.size 0 (.int .i64 11)
        have HK4 := hid (HK3.out.turn t4 (by omega) (fun k hk e => by have := HK3.out.1; omega))
        have HT4 := hid (HT3.out.trans t4 (fun i hi e => by omega))
        have HBX4 := hid (tcell HBX3.out t4 (by omega))
        have HRS4 := hid (block_turn HRS3.out t4 (by omega))
        have HNB4 := hid (heap_setCell_same _ _ 0 _ _ (.int .i64 11) HNB3.out)
        clear t4
        have hsc : (w3.setCell ⟨w2.heap.size, 0, none⟩ (.int .i64 11)).heap.size = w3.heap.size := by simp
        have HKC := hid (kids_any (d + 1) expr HEX ((w3.setCell ⟨w2.heap.size, 0, none⟩ (.int .i64 11)).alloc (.cells #[.string ⟨#[]⟩, .string ⟨#[116, 104, 101, 110]⟩, .string ⟨#[101, 108, 115, 101]⟩] 9)) bp B w2.heap.size (w2.heap.size + 1) (fun j => w2.heap.size + 1 ≤ j) r3 (HK4.out.below (new1 _ _)) (.int .i64 11) (.string ⟨#[]⟩) (.int .i64 0) (.int .i64 (t0.line : Nat)) (.int .i64 (t0.col : Nat)) (.slice none 0 0) (.slice none 0 0) (.slice none 0 0) [] (keep_alloc HNB4.out) (RowG.nil _ _ _ _ _ _) (.slice (some ⟨(w3.setCell ⟨w2.heap.size, 0, none⟩ (.int .i64 11)).heap.size, 0, none⟩) 3 3) [[], [116, 104, 101, 110], [101, 108, 115, 101]] ((slG_new (w3.setCell ⟨w2.heap.size, 0, none⟩ (.int .i64 11)) #[.string ⟨#[]⟩, .string ⟨#[116, 104, 101, 110]⟩, .string ⟨#[101, 108, 115, 101]⟩] 9 1 3 rfl (by decide)).mono (fun g _ h => ⟨by omega, by omega, fun e => by cases e⟩)) (by decide) (by simp) (by omega) (by omega) (by simp; omega) (by omega) (by omega) (fun j hj => by simp at hj; omega))
        rw [hsc] at HKC
        go_wp2_with fail
        refine (HKC.out).mono ?_
        rintro e w8 h8
        rcases hq : kidsP expr [[], [116, 104, 101, 110], [101, 108, 115, 101]] [] r3 with g | ⟨ks, r8⟩
        · obtain ⟨rfl, tn, bn⟩ := h8.bad_ hq
          have tn := (after1 tn).1
          have hxo := tcell HBX4.out tn (fun e => by rcases e with e | e | e; omega; omega; cases e)
          have HOB := hid (HT4.out.trans tn (fun i hi e => by rcases e with e | e | e; exact e; omega; cases e))
          have HQB := hid (HQ4.out.symm.trans (thenP_bad hq))
          have HBN := hid bn
          clear h8 tn bn hq
          go_wp2_with fail
          exact out_bad HBN.out hxo HOB.out HQB.out
        · obtain ⟨rfl, tn, ⟨vk, hb8, hr8⟩, kn⟩ := h8.good_ hq
          have tk := (after1 tn).1
          have hs8 := tk.size
          have HT8 := hid (HT4.out.trans tk (fun i hi e => by rcases e with e | e | e; exact e; omega; cases e))
          have HBX8 := hid (tcell HBX4.out tk (fun e => by rcases e with e | e | e; omega; omega; cases e))
          have HRS8 := hid (block_turn HRS4.out tk (fun e => by rcases e with e | e | e; omega; omega; cases e))
          have HK8 := hid kn
          have HR8 := hid hr8
          have HB8 := hid hb8
          skip
          have HQ8 : Hid (Pr.good (nodeD 11 [] 0 t0 [] [] ks) r8 = Q) := hid ((thenP_good hq).symm.trans HQ4.out)
          obtain ⟨A8, c8, hv8, _, _⟩ := hr8.shape
          subst hv8
          obtain ⟨f0, f1, f2, f3, f4, f5, f6, f7, fz⟩ := cells8 hb8
          obtain ⟨c0, c1, c2, c3, c4, c5, c6, c7, cz⟩ := cells8 HRS8.out
          clear h8 tn tk hb8 hr8 kn hq
          go_wp2_with fail
          have tF := put8_turn w8 w.heap.size (.int .i64 11) (.string ⟨#[]⟩) (.int .i64 0) (.int .i64 (t0.line : Nat)) (.int .i64 (t0.col : Nat)) (.slice none 0 0) (.slice none 0 0) (.slice A8 ks.length c8)
          obtain ⟨xs, q1, q2⟩ := HR8.out.sl foot_no
          exact out_good (fun w9 t9 => res_cell rfl rfl (block_turn (put8_block HRS8.out _ _ _ _ _ _ _ _) t9 (by omega)) Tryz.underlying49 rfl (by kernel_rfl)) (HK8.out.put8_ (by omega)) h0 h1 (tcell HBX8.out tF (by omega)) (new_turn8 HT8.out (by omega)) HQ8.out.symm
            (fun w9 t9 => ⟨_, rfl, .mk (SlG.nil _ _ _) .nil (SlG.nil _ _ _) (((q1.turn tF (fun g _ h e => by rcases h with h | h <;> omega)).turn t9 (fun g _ h e => by rcases h with h | h <;> omega)).mono (fun g _ h => by rcases h with h | h <;> omega)) (nos_row (row_mono foot_no (fun g _ h => by rcases h with h | h <;> omega) (row_turn foot_no t9 (fun g _ h e => by rcases h with h | h <;> omega) (row_turn foot_no tF (fun g _ h e => by rcases h with h | h <;> omega) q2))))⟩)
      · have HQ4 : Hid (thenP (headP typ []) (fun s => thenP (kidsP expr [[61, 62]] []) fun k => retP (nodeD 6 s.1 0 t0 s.2 [] k)) r3 = Q) := hid ((thenP_good HQ3.out).symm.trans HQ.out)
        have t4 := turn_set w3 w2.heap.size 0 (.int .i64 6)
        have HK4 := hid (HK3.out.turn t4 (by omega) (fun k hk e => by have := HK3.out.1; omega))
        have HT4 := hid (HT3.out.trans t4 (fun i hi e => by omega))
        have HBX4 := hid (tcell HBX3.out t4 (by omega))
        have HRS4 := hid (block_turn HRS3.out t4 (by omega))
        have HNB4 := hid (heap_setCell_same _ _ 0 _ _ (.int .i64 6) HNB3.out)
        have hs4 := t4.size
        have HHD := hid (head_any (d + 1) typ HTY hst (w3.setCell ⟨w2.heap.size, 0, none⟩ (.int .i64 6)) bp B r3 HK4.out (.slice none 0 0) [] [] (SlG.nil _ _ _) (fun _ _ => .nil) (by simp))
        clear t4
        go_wp2_with fail
        refine (HHD.out).mono ?_
        rintro e w5 h5
        rcases hq : headP typ [] r3 with g | ⟨x5, r5⟩
        · obtain ⟨rfl, tn, bn⟩ := h5.bad_ hq
          have HOB := hid (turn_bp HT4.out tn)
          have HQB := hid (HQ4.out.symm.trans (thenP_bad hq))
          have hxo := tcell HBX4.out tn (by omega)
          have HBN := hid bn
          clear h5 tn bn hq
          go_wp2_with fail
          exact out_bad HBN.out hxo HOB.out HQB.out
        · obtain ⟨v5, rfl, tn, ⟨u5, rfl, hr5⟩, kn⟩ := h5.good_ hq
          obtain ⟨s5, l5⟩ := x5
          simp only at hr5
          have hr5 : Tys w3.heap.size w5 u5 l5 := by simpa using hr5
          have hs5 := tn.size
          obtain ⟨A6, cq, hv6, _, _⟩ := hr5.shape
          subst hv6
          have hnb5 := block_turn HNB4.out tn (by omega)
          have t7 := (turn_set w5 w2.heap.size 1 (sv s5)).trans (turn_set _ w2.heap.size 5 (.slice A6 l5.length cq)) (fun _ _ h => h)
          have HNB7 := hid (show ((w5.setCell ⟨w2.heap.size, 1, none⟩ (sv s5)).setCell ⟨w2.heap.size, 5, none⟩ (.slice A6 l5.length cq)).heap[w2.heap.size]? = some (.cells #[.int .i64 6, sv s5, .int .i64 0, .int .i64 (t0.line : Nat), .int .i64 (t0.col : Nat), .slice A6 l5.length cq, .slice none 0 0, .slice none 0 0] 49 (0, 0)) from heap_setCell_same _ _ 5 _ _ (.slice A6 l5.length cq) (heap_setCell_same _ _ 1 _ _ (sv s5) hnb5))
          have HK7 := hid (kn.turn t7 (by omega) (fun k hk e => by have := HK3.out.1; omega))
          have HT7 := hid ((turn_bp HT4.out tn).trans t7 (fun i hi e => by omega))
          have HBX7 := hid (tcell (tcell HBX4.out tn (by omega)) t7 (by omega))
          have HRS7 := hid (block_turn (block_turn HRS4.out tn (by omega)) t7 (by omega))
          have HTT7 := hid (hr5.turn foot_ty t7 (fun g hg e => by have := (hr5.lt g hg).1; omega) (fun g _ hg e => by omega))
          have hs7 := t7.size
          have HQ7 : Hid (thenP (kidsP expr [[61, 62]] []) (fun k => retP (nodeD 6 s5 0 t0 l5 [] k)) r5 = Q) := hid ((thenP_good hq).symm.trans HQ4.out)
          obtain ⟨n0, n1, n2, n3, n4, n5, n6, n7, nz⟩ := cells8 (show w5.heap[w2.heap.size]? = some (.cells #[.int .i64 6, .string ⟨#[]⟩, .int .i64 0, .int .i64 (t0.line : Nat), .int .i64 (t0.col : Nat), .slice none 0 0, .slice none 0 0, .slice none 0 0] 49 (0, 0)) from hnb5)
          clear h5 tn hr5 kn hq hnb5 t7
          have hsc : ((w5.setCell ⟨w2.heap.size, 1, none⟩ (sv s5)).setCell ⟨w2.heap.size, 5, none⟩ (.slice A6 l5.length cq)).heap.size = w5.heap.size := by simp
          have HKC := hid (kids_any (d + 1) expr HEX (((w5.setCell ⟨w2.heap.size, 1, none⟩ (sv s5)).setCell ⟨w2.heap.size, 5, none⟩ (.slice A6 l5.length cq)).alloc (.cells #[.string ⟨#[61, 62]⟩] 9)) bp B w2.heap.size (w2.heap.size + 1) (fun j => w2.heap.size + 1 ≤ j) r5 (HK7.out.below (new1 _ _)) (.int .i64 6) (sv s5) (.int .i64 0) (.int .i64 (t0.line : Nat)) (.int .i64 (t0.col : Nat)) (.slice A6 l5.length cq) (.slice none 0 0) (.slice none 0 0) [] (keep_alloc HNB7.out) (RowG.nil _ _ _ _ _ _) (.slice (some ⟨((w5.setCell ⟨w2.heap.size, 1, none⟩ (sv s5)).setCell ⟨w2.heap.size, 5, none⟩ (.slice A6 l5.length cq)).heap.size, 0, none⟩) 1 1) [[61, 62]] ((slG_new ((w5.setCell ⟨w2.heap.size, 1, none⟩ (sv s5)).setCell ⟨w2.heap.size, 5, none⟩ (.slice A6 l5.length cq)) #[.string ⟨#[61, 62]⟩] 9 1 1 rfl (by decide)).mono (fun g _ h => ⟨by omega, by omega, fun e => by cases e⟩)) (by decide) (by simp) (by omega) (by omega) (by simp; omega) (by omega) (by omega) (fun j hj => by simp at hj; omega))
          rw [hsc] at HKC
          go_wp2_with fail
          refine (HKC.out).mono ?_
          rintro e w8 h8
          rcases hq : kidsP expr [[61, 62]] [] r5 with g | ⟨ks, r8⟩
          · obtain ⟨rfl, tn, bn⟩ := h8.bad_ hq
            have tn := (after1 tn).1
            have hxo := tcell HBX7.out tn (fun e => by rcases e with e | e | e; omega; omega; cases e)
            have HOB := hid (HT7.out.trans tn (fun i hi e => by rcases e with e | e | e; exact e; omega; cases e))
            have HQB := hid (HQ7.out.symm.trans (thenP_bad hq))
            have HBN := hid bn
            clear h8 tn bn hq
            go_wp2_with fail
            exact out_bad HBN.out hxo HOB.out HQB.out
          · obtain ⟨rfl, tn, ⟨vk, hb8, hr8⟩, kn⟩ := h8.good_ hq
            have tk := (after1 tn).1
            have hs8 := tk.size
            have HT8 := hid (HT7.out.trans tk (fun i hi e => by rcases e with e | e | e; exact e; omega; cases e))
            have HBX8 := hid (tcell HBX7.out tk (fun e => by rcases e with e | e | e; omega; omega; cases e))
            have HRS8 := hid (block_turn HRS7.out tk (fun e => by rcases e with e | e | e; omega; omega; cases e))
            have HK8 := hid kn
            have HR8 := hid hr8
            have HB8 := hid hb8
            have HTT8 := hid (HTT7.out.turn foot_ty tk (fun g hg e => by have := (HTT7.out.lt g hg).1; rcases e with e | e | e; omega; omega; cases e) (fun g _ hg e => by rcases e with e | e | e; omega; omega; cases e))
            obtain ⟨yst, y1, y2⟩ := HTT8.out.sl foot_ty
            have HY1 := hid y1
            have HY2 := hid y2
            clear y1 y2
            have HQ8 : Hid (Pr.good (nodeD 6 s5 0 t0 l5 [] ks) r8 = Q) := hid ((thenP_good hq).symm.trans HQ7.out)
            obtain ⟨A8, c8, hv8, _, _⟩ := hr8.shape
            subst hv8
            obtain ⟨f0, f1, f2, f3, f4, f5, f6, f7, fz⟩ := cells8 hb8
            obtain ⟨c0, c1, c2, c3, c4, c5, c6, c7, cz⟩ := cells8 HRS8.out
            clear h8 tn tk hb8 hr8 kn hq
            go_wp2_with fail
            have tF := put8_turn w8 w.heap.size (.int .i64 6) (sv s5) (.int .i64 0) (.int .i64 (t0.line : Nat)) (.int .i64 (t0.col : Nat)) (.slice A6 l5.length cq) (.slice none 0 0) (.slice A8 ks.length c8)
            obtain ⟨xs, q1, q2⟩ := HR8.out.sl foot_no
            exact out_good (fun w9 t9 => res_cell rfl rfl (block_turn (put8_block HRS8.out _ _ _ _ _ _ _ _) t9 (by omega)) Tryz.underlying49 rfl (by kernel_rfl)) (HK8.out.put8_ (by omega)) h0 h1 (tcell HBX8.out tF (by omega)) (new_turn8 HT8.out (by omega)) HQ8.out.symm
              (fun w9 t9 => ⟨_, rfl, .mk (((HY1.out.turn tF (fun g _ h e => by rcases h with h | h <;> omega)).turn t9 (fun g _ h e => by rcases h with h | h <;> omega)).mono (fun g _ h => by rcases h with h | h <;> omega)) (tys_row (row_mono foot_ty (fun g _ h => by rcases h with h | h <;> omega) (row_turn foot_ty t9 (fun g _ h e => by rcases h with h | h <;> omega) (row_turn foot_ty tF (fun g _ h e => by rcases h with h | h <;> omega) HY2.out)))) (SlG.nil _ _ _) (((q1.turn tF (fun g _ h e => by rcases h with h | h <;> omega)).turn t9 (fun g _ h e => by rcases h with h | h <;> omega)).mono (fun g _ h => by rcases h with h | h <;> omega)) (nos_row (row_mono foot_no (fun g _ h => by rcases h with h | h <;> omega) (row_turn foot_no t9 (fun g _ h e => by rcases h with h | h <;> omega) (row_turn foot_no tF (fun g _ h e => by rcases h with h | h <;> omega) q2))))⟩)
end Go.Proofs.YtmbppnbekkbibaaGreatDoor
end
section
/- The contract of atom. -/
set_option linter.unusedVariables false
namespace Go.Proofs.YtmbppnbekkbibaaGreatDoor
open Go.RowKit

theorem kindP_text {k : Int} {ts r : List TokD} {s : Bt} (h : kindP k ts = .good s r) : s = (nextP ts).text := by
  unfold kindP at h
  split at h
  · injection h with h _; exact h.symm
  · cases h
set_option maxRecDepth 100000 in
set_option maxHeartbeats 8000000 in
theorem atom_any (d : Int) (typ : Ps TyD) (expr : Ps NoD) (hst : Sf typ) (hse : Sf expr) (HTY : TypC d typ) (HEX : ExprC d expr) : AtomC d (atomP typ expr) := by
  intro w bp B ts h
  have hlt := h.lt
  have hB := h.1
  have hlaid := h.laid
  have htok := h.2.1
  obtain ⟨Q, hQ⟩ : ∃ Q, atomP typ expr ts = Q := ⟨_, rfl⟩
  rw [hQ]
  obtain ⟨t0, ht0⟩ : ∃ t0, nextP ts = t0 := ⟨_, rfl⟩
  have HQ : Hid ((if t0.kind = 3 then thenP (kindP 3) fun s => retP (nodeD 0 [] (parseV s).1 t0 [] [] [])
    else if t0.kind = 4 then thenP (kindP 4) fun s => retP (nodeD 1 s 0 t0 [] [] [])
    else thenP (takeP atomsL) (fun i => match i with
      | none => namedP typ t0
      | some 0 => retP (nodeD 2 [] 0 t0 [] [] [])
      | some 1 => retP (nodeD 2 [] 1 t0 [] [] [])
      | some 2 => retP (nodeD 3 [] 0 t0 [] [] [])
      | some 3 => thenP (wantsP [[40], [41]]) fun _ => retP (nodeD 18 [] 0 t0 [] [] [])
      | some 4 => thenP (kidsP expr [[40]] []) fun k => thenP (wantP [41]) fun _ => retP (nodeD 17 [] 0 t0 [] [] k)
      | some 5 => thenP expr fun x => thenP (wantP [41]) fun _ => retP x
      | some _ => thenP (recP expr t0) fun x => thenP (wantP [125]) fun _ => retP x)) ts = Q) := hid (by subst ht0; exact hQ)
  have HTOK := hid htok
  have HWF := hid h.wf
  have HLAID := hid hlaid
  have HNX := hid ht0
  have HH := hid (here_any d (w.alloc (.cells #[.int .i64 0, .string ⟨#[]⟩, .int .i64 0, .int .i64 0, .int .i64 0, .slice none 0 0, .slice none 0 0, .slice none 0 0] 49)) bp B ts (h.below (new1 _ _)) 0)
  rw [ht0] at HH
  have HK0 := hid (h.below (new1 w (.cells #[.int .i64 0, .string ⟨#[]⟩, .int .i64 0, .int .i64 0, .int .i64 0, .slice none 0 0, .slice none 0 0, .slice none 0 0] 49)))
  clear h hQ hlaid htok
  go_enter Tryz.func188, Tryz.ntmps188
  go_wp2_with fail
  refine (HH.out).mono ?_
  rintro e w2 ⟨rfl, hb2⟩
  obtain ⟨tm, hs2, hrs⟩ := after1 (Turn.of_below (F := fun k => k = bp) hb2)
  have HT2 := hid tm
  have HK2 := hid (HK0.out.below hb2)
  have HRS2 := hid (hrs (by omega))
  have HN := hid (nxt_any (w2.alloc (.cells (nodeC 0 t0) 49)) bp B ts d (HK2.out.below (new1 _ _)))
  rw [ht0] at HN
  clear hb2 tm hrs ht0
  go_wp2_with fail
  refine (HN.out).mono ?_
  rintro e w3 ⟨rfl, hb3⟩
  obtain ⟨tm, hs3, hnb⟩ := after1 (Turn.of_below (F := fun k => k = bp) hb3)
  have HT3 := hid (turn_bp HT2.out tm)
  have HK3 := hid ((HK2.out.below (new1 _ _)).below hb3)
  have HRS3 := hid (block_turn HRS2.out tm (by omega))
  have hnb3 := hnb (by omega)
  have HNB3 := hid hnb3
  have hnr1 : ¬ w2.heap.size = w.heap.size := by omega
  have hnr2 : ¬ w.heap.size = w2.heap.size := by omega
  have hnt1 : ¬ w2.heap.size = w3.heap.size := by omega
  have hnt2 : ¬ w3.heap.size = w2.heap.size := by omega
  have hlt2 : w2.heap.size < w3.heap.size := by omega
  obtain ⟨m0, m1, m2, m3, m4, m5, m6, m7, mz⟩ := cells8 hnb3
  clear hb3 tm hnb hnb3
  unfold tokG
  by_cases h3 : t0.kind = 3
  · have hb3 : (t0.kind == 3) = true := by simp [h3]
    have HQ3 : Hid (thenP (kindP 3) (fun s => retP (nodeD 0 [] (parseV s).1 t0 [] [] [])) ts = Q) := hid (by have := HQ.out; rwa [if_pos h3] at this)
    have H3 := hid h3
    have t6 := (turn_set w3 w2.heap.size 0 (.int .i64 0)).trans (Turn.alloc (fun k => k = w2.heap.size) _ (.cells #[.int .i64 t0.kind, sv t0.text, .int .i64 (t0.line : Nat), .int .i64 (t0.col : Nat)] 70)) (fun _ _ h => h)
    obtain ⟨W6, hW6⟩ : ∃ W6, (w3.setCell ⟨w2.heap.size, 0, none⟩ (.int .i64 0)).alloc (.cells #[.int .i64 t0.kind, sv t0.text, .int .i64 (t0.line : Nat), .int .i64 (t0.col : Nat)] 70) = W6 := ⟨_, rfl⟩
    have ht6 := at1 (w3.setCell ⟨w2.heap.size, 0, none⟩ (.int .i64 0)) (.cells #[.int .i64 t0.kind, sv t0.text, .int .i64 (t0.line : Nat), .int .i64 (t0.col : Nat)] 70)
    rw [hW6] at t6 ht6
    rw [show (w3.setCell ⟨w2.heap.size, 0, none⟩ (.int .i64 0)).heap.size = w3.heap.size by simp] at ht6
    have HNB6 := hid (show W6.heap[w2.heap.size]? = some (.cells (nodeC 0 t0) 49 (0, 0)) by rw [← hW6]; exact keep_alloc (heap_setCell_same _ _ 0 _ _ (.int .i64 0) HNB3.out))
    have HK6 := hid (HK3.out.turn t6 (by omega) (fun k hk e => by have := HK3.out.1; omega))
    have HT6 := hid (HT3.out.trans t6 (fun i hi e => by omega))
    have HRS6 := hid (block_turn HRS3.out t6 (by omega))
    have hs6 := t6.size
    have hk6 := (cells4 ht6).1
    have PT := hid (fun (w' : World) (h : Turn (fun j => j = bp) W6 w') => tcell hk6 h (by omega))
    have HD0 : Hid (Turn (fun j => j = bp) W6 W6.drew) := hid ⟨rfl, rfl, rfl, Nat.le_refl _, fun _ _ _ => rfl⟩
    have HKC := hid (kind_any W6.drew bp B ts d HK6.out 3)
    have HW6 := hid hW6
    clear h3 t6 ht6 hk6 hW6
    go_wp2_with fail
    rw [HW6.out]
    refine region_x (S := fun w' => Turn (fun j => j = bp) W6 w') (x := 11) (by kernel_rfl) ?_
    try simp only [Act.put, List.getElem_toArray, List.getElem_cons_zero, List.getElem_cons_succ, List.setIfInBounds_toArray, List.set_cons_zero, List.set_cons_succ]
    refine tx 0 (.pointer (some ⟨bp, 0, none⟩)) HD0.out ?_
    refine tx 1 (.pointer (some ⟨bp, 0, none⟩)) HD0.out ?_
    refine tx 2 (.pointer (some ⟨bp, 0, none⟩)) HD0.out ?_
    refine tx 3 (.pointer (some ⟨w3.heap.size, 0, none⟩)) HD0.out ?_
    refine txf 4 (.int .i64 t0.kind) PT.out HD0.out ?_
    refine anyX_ready (rs := [5]) (by kernel_rfl) (by simp) ?_
    refine ReadyX.cons rfl (fun K hK => ?_) (ReadyX.nil)
    go_simp
    rw [H3.out]
    refine (HKC.out).mono ?_
    rintro e w7 h7
    rcases hq : kindP 3 ts with g | ⟨s, r7⟩
    · obtain ⟨rfl, tn, bn⟩ := h7.bad_ hq
      have HQB := hid (HQ3.out.symm.trans (thenP_bad hq))
      exact ⟨rfl, ReadsP.fail HQB.out (BadP.mk2 (turn_bp HT6.out (turn_bp HD0.out tn)) bn)⟩
    · obtain ⟨v7, rfl, tn, rfl, kn⟩ := h7.good_ hq
      have HT7 := hid (turn_bp HD0.out tn)
      have hs7 := HT7.out.size
      have HK7 := hid kn
      have HQ7 : Hid (Pr.good (nodeD 0 [] (parseV s).1 t0 [] [] []) r7 = Q) := hid ((thenP_good hq).symm.trans HQ3.out)
      have hse7 : s.length ≤ 100000 := by
        have e := kindP_text hq
        rw [e]
        exact HTOK.out.2 _ HWF.out.next_mem
      clear h7 tn kn hq
      refine hK.out _ _ HT7.out ?_
      clear hK K
      try simp only [Act.put, List.getElem_toArray, List.getElem_cons_zero, List.getElem_cons_succ, List.setIfInBounds_toArray, List.set_cons_zero, List.set_cons_succ]
      refine anyX_ready (rs := [6]) (by kernel_rfl) (by simp) ?_
      refine ReadyX.cons rfl (fun K hK => ?_) (ReadyX.nil)
      go_simp
      refine (parse_any ⟨s.toArray⟩ w7 (by show s.toArray.size ≤ _; simp; omega) HK7.out.laid.here).mono ?_
      rintro e w8 ⟨rfl, hb8⟩
      have HT8 := hid (turn_bp HT7.out (Turn.of_below (F := fun k => k = bp) hb8))
      have hs8 := hb8.size
      have HK8 := hid (HK7.out.below hb8)
      clear hb8
      rw [show (ByteArray.mk s.toArray).data.toList = s from rfl]
      refine hK.out _ _ HT8.out ?_
      clear hK K
      try simp only [Act.put, List.getElem_toArray, List.getElem_cons_zero, List.getElem_cons_succ, List.setIfInBounds_toArray, List.set_cons_zero, List.set_cons_succ]
      refine tx 7 (.tuple #[.int .i64 (parseV s).1, .bool (parseV s).2]) HT8.out ?_
      refine tx 8 (.int .i64 (parseV s).1) HT8.out ?_
      refine tt 9 (.bool (parseV s).2) (fun _ => HT8.out) ?_
      refine tt 10 (.pointer (some ⟨w2.heap.size, 2, none⟩)) (fun _ => HT8.out) ?_
      have hnb8 := block_turn HNB6.out HT8.out (by omega)
      have hrs8 := block_turn HRS6.out HT8.out (by omega)
      obtain ⟨y0, y1, y2, y3, y4, y5, y6, y7, yz⟩ := cells8 hnb8
      obtain ⟨c0, c1, c2, c3, c4, c5, c6, c7, cz⟩ := cells8 hrs8
      have t9 := turn_set w8 w2.heap.size 2 (.int .i64 (parseV s).1)
      have HRS9 := hid (block_turn hrs8 t9 (by omega))
      have HK9 := hid (HK8.out.turn t9 (by omega) (fun k hk e => by have := HK3.out.1; omega))
      have HT9 := hid ((turn_bp HT6.out HT8.out).trans t9 (fun i hi e => by omega))
      clear m0 m1 m2 m3 m4 m5 m6 m7 mz hnb8 hrs8 t9
      refine anyX_ready (rs := [11]) (by kernel_rfl) (by simp) ?_
      refine ReadyX.past rfl (by kernel_rfl) (fun K hK => ?_) (ReadyX.nil)
      go_simp
      refine hK.out _ _ ?_
      clear hK K
      try simp only [Act.put, List.getElem_toArray, List.getElem_cons_zero, List.getElem_cons_succ, List.setIfInBounds_toArray, List.set_cons_zero, List.set_cons_succ]
      refine anyX_done (by kernel_rfl) ?_ _
      go_wp2_with fail
      have tF := put8_turn (w8.setCell ⟨w2.heap.size, 2, none⟩ (.int .i64 (parseV s).1)) w.heap.size (.int .i64 0) (.string ⟨#[]⟩) (.int .i64 (parseV s).1) (.int .i64 (t0.line : Nat)) (.int .i64 (t0.col : Nat)) (.slice none 0 0) (.slice none 0 0) (.slice none 0 0)
      refine bodyPost_ret (res_cell rfl rfl (put8_block HRS9.out _ _ _ _ _ _ _ _) Tryz.underlying49 rfl (by kernel_rfl)) rfl ?_
      exact ReadsP.done HQ7.out.symm (new_turn8 HT9.out (by omega)) ⟨_, rfl, .mk (SlG.nil _ _ _) .nil (SlG.nil _ _ _) (SlG.nil _ _ _) .nil⟩ (HK9.out.put8_ (by omega))
  · have hb3 : (t0.kind == 3) = false := by simp [h3]
    have HQ0 : Hid ((if t0.kind = 4 then thenP (kindP 4) (fun s => retP (nodeD 1 s 0 t0 [] [] [])) else thenP (takeP atomsL) (fun i => match i with
        | none => namedP typ t0
        | some 0 => retP (nodeD 2 [] 0 t0 [] [] [])
        | some 1 => retP (nodeD 2 [] 1 t0 [] [] [])
        | some 2 => retP (nodeD 3 [] 0 t0 [] [] [])
        | some 3 => thenP (wantsP [[40], [41]]) fun _ => retP (nodeD 18 [] 0 t0 [] [] [])
        | some 4 => thenP (kidsP expr [[40]] []) fun k => thenP (wantP [41]) fun _ => retP (nodeD 17 [] 0 t0 [] [] k)
        | some 5 => thenP expr fun x => thenP (wantP [41]) fun _ => retP x
        | some _ => thenP (recP expr t0) fun x => thenP (wantP [125]) fun _ => retP x)) ts = Q) := hid (by have := HQ.out; rwa [if_neg h3] at this)
    clear h3 HQ
    by_cases h4 : t0.kind = 4
    · have hb4 : (t0.kind == 4) = true := by simp [h4]
      have HQ3 : Hid (thenP (kindP 4) (fun s => retP (nodeD 1 s 0 t0 [] [] [])) ts = Q) := hid (by have := HQ0.out; rwa [if_pos h4] at this)
      have H4 := hid h4
      have t6 := Turn.alloc (fun _ => False) w3 (.cells #[.int .i64 t0.kind, sv t0.text, .int .i64 (t0.line : Nat), .int .i64 (t0.col : Nat)] 70)
      obtain ⟨W6, hW6⟩ : ∃ W6, w3.alloc (.cells #[.int .i64 t0.kind, sv t0.text, .int .i64 (t0.line : Nat), .int .i64 (t0.col : Nat)] 70) = W6 := ⟨_, rfl⟩
      have ht6 := at1 w3 (.cells #[.int .i64 t0.kind, sv t0.text, .int .i64 (t0.line : Nat), .int .i64 (t0.col : Nat)] 70)
      rw [hW6] at t6 ht6
      have HNB6 := hid (block_turn HNB3.out t6 id)
      have HK6 := hid (HK3.out.turn t6 id (fun _ _ => id))
      have HT6 := hid (HT3.out.trans t6 (fun i hi e => e.elim))
      have HRS6 := hid (block_turn HRS3.out t6 id)
      have hs6 := t6.size
      have hk6 := (cells4 ht6).1
      have PT := hid (fun (w' : World) (h : Turn (fun j => j = bp ∨ j = w2.heap.size) W6 w') => tcell hk6 h (by omega))
      have HDB : Hid (Turn (fun j => j = bp) W6 W6.drew) := hid ⟨rfl, rfl, rfl, Nat.le_refl _, fun _ _ _ => rfl⟩
      have HD0 := hid (HDB.out.mono (G := fun j => j = bp ∨ j = w2.heap.size) (fun _ _ h => .inl h))
      have HKC := hid (kind_any W6.drew bp B ts d HK6.out 4)
      have HW6 := hid hW6
      clear h4 t6 ht6 hk6 hW6
      go_wp2_with fail
      rw [HW6.out]
      refine region_x (S := fun w' => Turn (fun j => j = bp ∨ j = w2.heap.size) W6 w') (x := 9) (by kernel_rfl) ?_
      try simp only [Act.put, List.getElem_toArray, List.getElem_cons_zero, List.getElem_cons_succ, List.setIfInBounds_toArray, List.set_cons_zero, List.set_cons_succ]
      refine tx 0 (.pointer (some ⟨bp, 0, none⟩)) HD0.out ?_
      refine tx 1 (.pointer (some ⟨bp, 0, none⟩)) HD0.out ?_
      refine tx 2 (.pointer (some ⟨bp, 0, none⟩)) HD0.out ?_
      refine tx 3 (.pointer (some ⟨w3.heap.size, 0, none⟩)) HD0.out ?_
      refine txf 4 (.int .i64 t0.kind) PT.out HD0.out ?_
      refine anyX_ready (rs := [5]) (by kernel_rfl) (by simp) ?_
      refine ReadyX.cons rfl (fun K hK => ?_) (ReadyX.nil)
      go_simp
      rw [H4.out]
      refine (HKC.out).mono ?_
      rintro e w7 h7
      rcases hq : kindP 4 ts with g | ⟨s, r7⟩
      · obtain ⟨rfl, tn, bn⟩ := h7.bad_ hq
        have HQB := hid (HQ3.out.symm.trans (thenP_bad hq))
        exact ⟨rfl, ReadsP.fail HQB.out (BadP.mk2 (turn_bp HT6.out (turn_bp HDB.out tn)) bn)⟩
      · obtain ⟨v7, rfl, tn, rfl, kn⟩ := h7.good_ hq
        have HT7 := hid (turn_bp HDB.out tn)
        have hs7 := HT7.out.size
        have HK7 := hid kn
        have HS7 := hid (HT7.out.mono (G := fun j => j = bp ∨ j = w2.heap.size) (fun _ _ h => .inl h))
        have HS8 := hid (HS7.out.trans (turn_set w7 w2.heap.size 0 (.int .i64 1)) (fun _ _ h => .inr h))
        have HQ7 : Hid (Pr.good (nodeD 1 s 0 t0 [] [] []) r7 = Q) := hid ((thenP_good hq).symm.trans HQ3.out)
        have hnb7 := block_turn HNB6.out HT7.out (by omega)
        have hrs7 := block_turn HRS6.out HT7.out (by omega)
        obtain ⟨y0, y1, y2, y3, y4, y5, y6, y7, yz⟩ := cells8 hnb7
        obtain ⟨c0, c1, c2, c3, c4, c5, c6, c7, cz⟩ := cells8 hrs7
        have t9 := (turn_set w7 w2.heap.size 0 (.int .i64 1)).trans (turn_set _ w2.heap.size 1 (sv s)) (fun _ _ h => h)
        have HRS9 := hid (block_turn hrs7 t9 (by omega))
        have HK9 := hid (kn.turn t9 (by omega) (fun k hk e => by have := HK3.out.1; omega))
        have HT9 := hid ((turn_bp HT6.out HT7.out).trans t9 (fun i hi e => by omega))
        clear h7 tn kn hq m0 m1 m2 m3 m4 m5 m6 m7 mz hnb7 hrs7 t9
        refine hK.out _ _ HS7.out ?_
        clear hK K
        try simp only [Act.put, List.getElem_toArray, List.getElem_cons_zero, List.getElem_cons_succ, List.setIfInBounds_toArray, List.set_cons_zero, List.set_cons_succ]
        refine tt 6 (.pointer (some ⟨w2.heap.size, 0, none⟩)) (fun _ => HS7.out) ?_
        refine anyX_ready (rs := [7]) (by kernel_rfl) (by simp) ?_
        refine ReadyX.cons rfl (fun K hK => ?_) (ReadyX.nil)
        go_simp
        refine hK.out _ _ HS8.out ?_
        clear hK K
        try simp only [Act.put, List.getElem_toArray, List.getElem_cons_zero, List.getElem_cons_succ, List.setIfInBounds_toArray, List.set_cons_zero, List.set_cons_succ]
        refine tt 8 (.pointer (some ⟨w2.heap.size, 1, none⟩)) (fun _ => HS8.out) ?_
        refine anyX_ready (rs := [9]) (by kernel_rfl) (by simp) ?_
        refine ReadyX.past rfl (by kernel_rfl) (fun K hK => ?_) (ReadyX.nil)
        go_simp
        refine hK.out _ _ ?_
        clear hK K
        try simp only [Act.put, List.getElem_toArray, List.getElem_cons_zero, List.getElem_cons_succ, List.setIfInBounds_toArray, List.set_cons_zero, List.set_cons_succ]
        refine anyX_done (by kernel_rfl) ?_ _
        go_wp2_with fail
        have tF := put8_turn ((w7.setCell ⟨w2.heap.size, 0, none⟩ (.int .i64 1)).setCell ⟨w2.heap.size, 1, none⟩ (sv s)) w.heap.size (.int .i64 1) (sv s) (.int .i64 0) (.int .i64 (t0.line : Nat)) (.int .i64 (t0.col : Nat)) (.slice none 0 0) (.slice none 0 0) (.slice none 0 0)
        refine bodyPost_ret (res_cell rfl rfl (put8_block HRS9.out _ _ _ _ _ _ _ _) Tryz.underlying49 rfl (by kernel_rfl)) rfl ?_
        exact ReadsP.done HQ7.out.symm (new_turn8 HT9.out (by omega)) ⟨_, rfl, .mk (SlG.nil _ _ _) .nil (SlG.nil _ _ _) (SlG.nil _ _ _) .nil⟩ (HK9.out.put8_ (by omega))
    · have hb4 : (t0.kind == 4) = false := by simp [h4]
      have HQ3 : Hid (thenP (takeP atomsL) (fun i => match i with
          | none => namedP typ t0
          | some 0 => retP (nodeD 2 [] 0 t0 [] [] [])
          | some 1 => retP (nodeD 2 [] 1 t0 [] [] [])
          | some 2 => retP (nodeD 3 [] 0 t0 [] [] [])
          | some 3 => thenP (wantsP [[40], [41]]) fun _ => retP (nodeD 18 [] 0 t0 [] [] [])
          | some 4 => thenP (kidsP expr [[40]] []) fun k => thenP (wantP [41]) fun _ => retP (nodeD 17 [] 0 t0 [] [] k)
          | some 5 => thenP expr fun x => thenP (wantP [41]) fun _ => retP x
          | some _ => thenP (recP expr t0) fun x => thenP (wantP [125]) fun _ => retP x) ts = Q) := hid (by have := HQ0.out; rwa [if_neg h4] at this)
      have HC := hid (take_lit (w3.alloc (.cells #[.int .i64 t0.kind, sv t0.text, .int .i64 (t0.line : Nat), .int .i64 (t0.col : Nat)] 70)) bp B ts d (HK3.out.below (new1 _ _)) atomsL #[.string ⟨#[102, 97, 108, 115, 101]⟩, .string ⟨#[116, 114, 117, 101]⟩, .string ⟨#[110, 117, 108, 108]⟩, .string ⟨#[114, 101, 97, 100]⟩, .string ⟨#[112, 114, 105, 110, 116]⟩, .string ⟨#[40]⟩, .string ⟨#[123]⟩] 9 7 (w3.heap.size + 1))
      clear h4 HQ0
      go_wp2_with fail
      refine (HC.out).mono ?_
      rintro e w4 h4
      rcases hq : takeP atomsL ts with g | ⟨o, r4⟩
      · exact (takeP_good hq).elim
      · obtain ⟨v4, rfl, tn, rfl, kn⟩ := h4.good_ hq
        have tm := (after1 tn).1
        have hs4 := tm.size
        have HT4 := hid (turn_bp HT3.out tm)
        have HK4 := hid kn
        have hrs4 := block_turn HRS3.out tm (by omega)
        have HRS4 := hid hrs4
        have hnb4 := block_turn HNB3.out tm (by omega)
        have HNB4 := hid hnb4
        have HQ4 := hid hq
        obtain ⟨y0, y1, y2, y3, y4, y5, y6, y7, yz⟩ := cells8 hnb4
        obtain ⟨c0, c1, c2, c3, c4, c5, c6, c7, cz⟩ := cells8 hrs4
        clear h4 tn tm kn hq hnb4 hrs4 m0 m1 m2 m3 m4 m5 m6 m7 mz
        rcases o with _ | i
        · have HQ5 : Hid (namedP typ t0 r4 = Q) := hid ((thenP_good HQ4.out).symm.trans HQ3.out)
          have HP := hid (pnamed_any d typ hst HTY w4 bp B r4 HK4.out t0)
          go_wp2_with fail
          refine (HP.out).mono ?_
          rintro e w5 h5
          rcases hq : namedP typ t0 r4 with g | ⟨x, r5⟩
          · obtain ⟨rfl, tn, bn⟩ := h5.bad_ hq
            have HB := hid (BadP.mk2 (turn_bp HT4.out tn) bn)
            have HQB := hid (HQ5.out.symm.trans hq)
            clear h5 tn bn hq
            go_wp2_with fail
            exact ⟨rfl, ReadsP.fail HQB.out HB.out⟩
          · obtain ⟨v5, rfl, tn, ⟨z5, rfl, hz⟩, kn⟩ := h5.good_ hq
            obtain ⟨k4, s4, n4, l4, o4, A14, n14, c14, A24, n24, c24, A34, n34, c34, rfl⟩ := hz.shape'
            have hs5 := tn.size
            have HT5 := hid (turn_bp HT4.out tn)
            have HK5 := hid kn
            have HRS5 := hid (block_turn HRS4.out tn (by omega))
            have HZ5 := hid hz.iv
            have HQ6 := hid (hq.symm.trans HQ5.out)
            clear c0 c1 c2 c3 c4 c5 c6 c7 cz
            obtain ⟨c0, c1, c2, c3, c4, c5, c6, c7, cz⟩ := cells8 HRS5.out
            clear h5 tn hz kn hq
            go_wp2_with fail
            have tF := put8_turn w5 w.heap.size (.int .i64 k4) (sv s4) (.int .i64 n4) (.int .i64 l4) (.int .i64 o4) (.slice A14 n14 c14) (.slice A24 n24 c24) (.slice A34 n34 c34)
            refine bodyPost_ret (res_cell rfl rfl (put8_block HRS5.out _ _ _ _ _ _ _ _) Tryz.underlying49 rfl (by kernel_rfl)) rfl ?_
            exact ReadsP.done HQ6.out.symm (new_turn8 HT5.out (by omega)) ⟨_, rfl, (HZ5.out.turn tF (fun g _ h e => by have := h.1; omega)).mono (fun g _ h => by have := h.1; omega)⟩ (HK5.out.put8_ (by omega))
        · have hi := takeP_lt HQ4.out
          simp only [atomsL, List.length_cons, List.length_nil] at hi
          obtain rfl | rfl | rfl | rfl | rfl | rfl | rfl : i = 0 ∨ i = 1 ∨ i = 2 ∨ i = 3 ∨ i = 4 ∨ i = 5 ∨ i = 6 := by omega
          · have HQ5 : Hid (Pr.good (nodeD 2 [] 0 t0 [] [] []) r4 = Q) := hid ((thenP_good HQ4.out).symm.trans HQ3.out)
            have tS := ((turn_set w4 w2.heap.size 0 (.int .i64 2)).trans (turn_set _ w2.heap.size 2 (.int .i64 0)) (fun _ _ h => h))
            have HNB5 := hid (show ((w4.setCell ⟨w2.heap.size, 0, none⟩ (.int .i64 2)).setCell ⟨w2.heap.size, 2, none⟩ (.int .i64 0)).heap[w2.heap.size]? = some (.cells #[.int .i64 2, .string ⟨#[]⟩, .int .i64 0, .int .i64 (t0.line : Nat), .int .i64 (t0.col : Nat), .slice none 0 0, .slice none 0 0, .slice none 0 0] 49 (0, 0)) from (heap_setCell_same _ _ 2 _ _ (.int .i64 0) (heap_setCell_same _ _ 0 _ _ (.int .i64 2) HNB4.out)))
            have HK5 := hid (HK4.out.turn tS (by omega) (fun k hk e => by have := HK3.out.1; omega))
            have HT5 := hid (HT4.out.trans tS (fun i hi e => by omega))
            have HRS5 := hid (block_turn HRS4.out tS (by omega))
            have hsS : (((w4.setCell ⟨w2.heap.size, 0, none⟩ (.int .i64 2)).setCell ⟨w2.heap.size, 2, none⟩ (.int .i64 0))).heap.size = w4.heap.size := by simp
            clear tS
            go_wp2_with fail
            have tF := put8_turn ((w4.setCell ⟨w2.heap.size, 0, none⟩ (.int .i64 2)).setCell ⟨w2.heap.size, 2, none⟩ (.int .i64 0)) w.heap.size (.int .i64 2) (.string ⟨#[]⟩) (.int .i64 0) (.int .i64 (t0.line : Nat)) (.int .i64 (t0.col : Nat)) (.slice none 0 0) (.slice none 0 0) (.slice none 0 0)
            refine bodyPost_ret (res_cell rfl rfl (put8_block HRS5.out _ _ _ _ _ _ _ _) Tryz.underlying49 rfl (by kernel_rfl)) rfl ?_
            exact ReadsP.done HQ5.out.symm (new_turn8 HT5.out (by omega)) ⟨_, rfl, .mk (SlG.nil _ _ _) .nil (SlG.nil _ _ _) (SlG.nil _ _ _) .nil⟩ (HK5.out.put8_ (by omega))
          · have HQ5 : Hid (Pr.good (nodeD 2 [] 1 t0 [] [] []) r4 = Q) := hid ((thenP_good HQ4.out).symm.trans HQ3.out)
            have tS := ((turn_set w4 w2.heap.size 0 (.int .i64 2)).trans (turn_set _ w2.heap.size 2 (.int .i64 1)) (fun _ _ h => h))
            have HNB5 := hid (show ((w4.setCell ⟨w2.heap.size, 0, none⟩ (.int .i64 2)).setCell ⟨w2.heap.size, 2, none⟩ (.int .i64 1)).heap[w2.heap.size]? = some (.cells #[.int .i64 2, .string ⟨#[]⟩, .int .i64 1, .int .i64 (t0.line : Nat), .int .i64 (t0.col : Nat), .slice none 0 0, .slice none 0 0, .slice none 0 0] 49 (0, 0)) from (heap_setCell_same _ _ 2 _ _ (.int .i64 1) (heap_setCell_same _ _ 0 _ _ (.int .i64 2) HNB4.out)))
            have HK5 := hid (HK4.out.turn tS (by omega) (fun k hk e => by have := HK3.out.1; omega))
            have HT5 := hid (HT4.out.trans tS (fun i hi e => by omega))
            have HRS5 := hid (block_turn HRS4.out tS (by omega))
            have hsS : (((w4.setCell ⟨w2.heap.size, 0, none⟩ (.int .i64 2)).setCell ⟨w2.heap.size, 2, none⟩ (.int .i64 1))).heap.size = w4.heap.size := by simp
            clear tS
            go_wp2_with fail
            have tF := put8_turn ((w4.setCell ⟨w2.heap.size, 0, none⟩ (.int .i64 2)).setCell ⟨w2.heap.size, 2, none⟩ (.int .i64 1)) w.heap.size (.int .i64 2) (.string ⟨#[]⟩) (.int .i64 1) (.int .i64 (t0.line : Nat)) (.int .i64 (t0.col : Nat)) (.slice none 0 0) (.slice none 0 0) (.slice none 0 0)
            refine bodyPost_ret (res_cell rfl rfl (put8_block HRS5.out _ _ _ _ _ _ _ _) Tryz.underlying49 rfl (by kernel_rfl)) rfl ?_
            exact ReadsP.done HQ5.out.symm (new_turn8 HT5.out (by omega)) ⟨_, rfl, .mk (SlG.nil _ _ _) .nil (SlG.nil _ _ _) (SlG.nil _ _ _) .nil⟩ (HK5.out.put8_ (by omega))
          · have HQ5 : Hid (Pr.good (nodeD 3 [] 0 t0 [] [] []) r4 = Q) := hid ((thenP_good HQ4.out).symm.trans HQ3.out)
            have tS := (turn_set w4 w2.heap.size 0 (.int .i64 3))
            have HNB5 := hid (show (w4.setCell ⟨w2.heap.size, 0, none⟩ (.int .i64 3)).heap[w2.heap.size]? = some (.cells #[.int .i64 3, .string ⟨#[]⟩, .int .i64 0, .int .i64 (t0.line : Nat), .int .i64 (t0.col : Nat), .slice none 0 0, .slice none 0 0, .slice none 0 0] 49 (0, 0)) from (heap_setCell_same _ _ 0 _ _ (.int .i64 3) HNB4.out))
            have HK5 := hid (HK4.out.turn tS (by omega) (fun k hk e => by have := HK3.out.1; omega))
            have HT5 := hid (HT4.out.trans tS (fun i hi e => by omega))
            have HRS5 := hid (block_turn HRS4.out tS (by omega))
            have hsS : ((w4.setCell ⟨w2.heap.size, 0, none⟩ (.int .i64 3))).heap.size = w4.heap.size := by simp
            clear tS
            go_wp2_with fail
            have tF := put8_turn (w4.setCell ⟨w2.heap.size, 0, none⟩ (.int .i64 3)) w.heap.size (.int .i64 3) (.string ⟨#[]⟩) (.int .i64 0) (.int .i64 (t0.line : Nat)) (.int .i64 (t0.col : Nat)) (.slice none 0 0) (.slice none 0 0) (.slice none 0 0)
            refine bodyPost_ret (res_cell rfl rfl (put8_block HRS5.out _ _ _ _ _ _ _ _) Tryz.underlying49 rfl (by kernel_rfl)) rfl ?_
            exact ReadsP.done HQ5.out.symm (new_turn8 HT5.out (by omega)) ⟨_, rfl, .mk (SlG.nil _ _ _) .nil (SlG.nil _ _ _) (SlG.nil _ _ _) .nil⟩ (HK5.out.put8_ (by omega))
          · have HQ5 : Hid (thenP (wantsP [[40], [41]]) (fun _ => retP (nodeD 18 [] 0 t0 [] [] [])) r4 = Q) := hid ((thenP_good HQ4.out).symm.trans HQ3.out)
            have tS := (turn_set w4 w2.heap.size 0 (.int .i64 18))
            have HNB5 := hid (show (w4.setCell ⟨w2.heap.size, 0, none⟩ (.int .i64 18)).heap[w2.heap.size]? = some (.cells #[.int .i64 18, .string ⟨#[]⟩, .int .i64 0, .int .i64 (t0.line : Nat), .int .i64 (t0.col : Nat), .slice none 0 0, .slice none 0 0, .slice none 0 0] 49 (0, 0)) from (heap_setCell_same _ _ 0 _ _ (.int .i64 18) HNB4.out))
            have HK5 := hid (HK4.out.turn tS (by omega) (fun k hk e => by have := HK3.out.1; omega))
            have HT5 := hid (HT4.out.trans tS (fun i hi e => by omega))
            have HRS5 := hid (block_turn HRS4.out tS (by omega))
            have hsS : ((w4.setCell ⟨w2.heap.size, 0, none⟩ (.int .i64 18))).heap.size = w4.heap.size := by simp
            clear tS
            have HP := hid (want_any ((w4.setCell ⟨w2.heap.size, 0, none⟩ (.int .i64 18)).alloc (.cells #[.string ⟨#[40]⟩, .string ⟨#[41]⟩] 9)) bp B r4 d (HK5.out.below (new1 _ _)) (.slice (some ⟨w4.heap.size, 0, none⟩) 2 2) [[40], [41]] (ss_lit _ _ hsS.symm [[40], [41]] #[.string ⟨#[40]⟩, .string ⟨#[41]⟩] 9 2 rfl rfl (by decide)) (by simp))
            go_wp2_with fail
            refine (HP.out).mono ?_
            rintro e w5 h5
            rcases hq : wantsP [[40], [41]] r4 with g | ⟨u, r5⟩
            · obtain ⟨rfl, tn, bn⟩ := h5.bad_ hq
              have tn := (after1 tn).1
              have HB := hid (BadP.mk2 (turn_bp HT5.out tn) bn)
              have HQB := hid (HQ5.out.symm.trans (thenP_bad hq))
              clear h5 tn bn hq
              go_wp2_with fail
              exact ⟨rfl, ReadsP.fail HQB.out HB.out⟩
            · obtain ⟨v5, rfl, tn, -, kn⟩ := h5.good_ hq
              have tn := (after1 tn).1
              have hsA := tn.size
              rw [hsS] at hsA
              have hs6 := tn.size
              have HT6 := hid (turn_bp HT5.out tn)
              have HK6 := hid kn
              have HRS6 := hid (block_turn HRS5.out tn (by omega))
              have hnb6 := block_turn HNB5.out tn (by omega)
              have HQ6 : Hid (Pr.good (nodeD 18 [] 0 t0 [] [] []) r5 = Q) := hid ((thenP_good hq).symm.trans HQ5.out)
              clear y0 y1 y2 y3 y4 y5 y6 y7 yz c0 c1 c2 c3 c4 c5 c6 c7 cz
              obtain ⟨y0, y1, y2, y3, y4, y5, y6, y7, yz⟩ := cells8 hnb6
              obtain ⟨c0, c1, c2, c3, c4, c5, c6, c7, cz⟩ := cells8 HRS6.out
              clear h5 tn kn hq hnb6
              go_wp2_with fail
              have tF := put8_turn w5 w.heap.size (.int .i64 18) (.string ⟨#[]⟩) (.int .i64 0) (.int .i64 (t0.line : Nat)) (.int .i64 (t0.col : Nat)) (.slice none 0 0) (.slice none 0 0) (.slice none 0 0)
              refine bodyPost_ret (res_cell rfl rfl (put8_block HRS6.out _ _ _ _ _ _ _ _) Tryz.underlying49 rfl (by kernel_rfl)) rfl ?_
              exact ReadsP.done HQ6.out.symm (new_turn8 HT6.out (by omega)) ⟨_, rfl, .mk (SlG.nil _ _ _) .nil (SlG.nil _ _ _) (SlG.nil _ _ _) .nil⟩ (HK6.out.put8_ (by omega))
          · have HQ5 : Hid (thenP (kidsP expr [[40]] []) (fun k => thenP (wantP [41]) fun _ => retP (nodeD 17 [] 0 t0 [] [] k)) r4 = Q) := hid ((thenP_good HQ4.out).symm.trans HQ3.out)
            have tS := (turn_set w4 w2.heap.size 0 (.int .i64 17))
            have HNB5 := hid (show (w4.setCell ⟨w2.heap.size, 0, none⟩ (.int .i64 17)).heap[w2.heap.size]? = some (.cells #[.int .i64 17, .string ⟨#[]⟩, .int .i64 0, .int .i64 (t0.line : Nat), .int .i64 (t0.col : Nat), .slice none 0 0, .slice none 0 0, .slice none 0 0] 49 (0, 0)) from (heap_setCell_same _ _ 0 _ _ (.int .i64 17) HNB4.out))
            have HK5 := hid (HK4.out.turn tS (by omega) (fun k hk e => by have := HK3.out.1; omega))
            have HT5 := hid (HT4.out.trans tS (fun i hi e => by omega))
            have HRS5 := hid (block_turn HRS4.out tS (by omega))
            have hsS : ((w4.setCell ⟨w2.heap.size, 0, none⟩ (.int .i64 17))).heap.size = w4.heap.size := by simp
            clear tS
            have HKC := hid (kids_any d expr HEX ((w4.setCell ⟨w2.heap.size, 0, none⟩ (.int .i64 17)).alloc (.cells #[.string ⟨#[40]⟩] 9)) bp B w2.heap.size (w2.heap.size + 1) (fun j => w2.heap.size + 1 ≤ j) r4 (HK5.out.below (new1 _ _)) (.int .i64 17) (.string ⟨#[]⟩) (.int .i64 0) (.int .i64 (t0.line : Nat)) (.int .i64 (t0.col : Nat)) (.slice none 0 0) (.slice none 0 0) (.slice none 0 0) [] (keep_alloc HNB5.out) (RowG.nil _ _ _ _ _ _) (.slice (some ⟨((w4.setCell ⟨w2.heap.size, 0, none⟩ (.int .i64 17))).heap.size, 0, none⟩) 1 1) [[40]] ((slG_new ((w4.setCell ⟨w2.heap.size, 0, none⟩ (.int .i64 17))) #[.string ⟨#[40]⟩] 9 1 1 rfl (by decide)).mono (fun g _ h => ⟨by omega, by omega, fun e => by cases e⟩)) (by decide) (by simp) (by omega) (by omega) (by simp; omega) (by omega) (by omega) (fun j hj => by simp at hj; omega))
            rw [hsS] at HKC
            go_wp2_with fail
            refine (HKC.out).mono ?_
            rintro e w5 h5
            rcases hq : kidsP expr [[40]] [] r4 with g | ⟨ks, r5⟩
            · obtain ⟨rfl, tn, bn⟩ := h5.bad_ hq
              have tn := (after1 tn).1
              have HB := hid (BadP.mk2 (HT5.out.trans tn (fun i hi e => by rcases e with e | e | e; exact e; omega; cases e)) bn)
              have HQB := hid (HQ5.out.symm.trans (thenP_bad hq))
              clear h5 tn bn hq
              go_wp2_with fail
              exact ⟨rfl, ReadsP.fail HQB.out HB.out⟩
            · obtain ⟨rfl, tn, ⟨vk, hb8, hr8⟩, kn⟩ := h5.good_ hq
              have tk := (after1 tn).1
              have hs8 := tk.size
              rw [hsS] at hs8
              obtain ⟨A8, c8, hv8, _, _⟩ := hr8.shape
              subst hv8
              have HT8 := hid (HT5.out.trans tk (fun i hi e => by rcases e with e | e | e; exact e; omega; cases e))
              have HRS8 := hid (block_turn HRS5.out tk (fun e => by rcases e with e | e | e; omega; omega; cases e))
              have HK8 := hid kn
              have HR8 := hid hr8
              have HNB8 := hid hb8
              have HQ8 : Hid (thenP (wantP [41]) (fun _ => retP (nodeD 17 [] 0 t0 [] [] ks)) r5 = Q) := hid ((thenP_good hq).symm.trans HQ5.out)
              have HN := hid (want_lit w5 bp B r5 d kn [41] 9 w5.heap.size)
              clear h5 tn tk hb8 hr8 kn hq
              go_wp2_with fail
              refine (HN.out).mono ?_
              rintro e w6 h5
              rcases hq : wantP [41] r5 with g | ⟨u, r6⟩
              · obtain ⟨rfl, tn, bn⟩ := h5.bad_ hq
                have HB := hid (BadP.mk2 (turn_bp HT8.out tn) bn)
                have HQB := hid (HQ8.out.symm.trans (thenP_bad hq))
                clear h5 tn bn hq
                go_wp2_with fail
                exact ⟨rfl, ReadsP.fail HQB.out HB.out⟩
              · obtain ⟨v6, rfl, tn, -, kn⟩ := h5.good_ hq
                have hr9 := HR8.out.turn foot_no tn (fun g hg e => by have := (HR8.out.lt g hg).1; omega) (fun g _ hg e => by omega)
                have HR9 := hid hr9
                clear hr9
                have hs9 := tn.size
                have HT9 := hid (turn_bp HT8.out tn)
                have HK9 := hid kn
                have HRS9 := hid (block_turn HRS8.out tn (by omega))
                have hnb9 := block_turn HNB8.out tn (by omega)
                have HQ9 : Hid (Pr.good (nodeD 17 [] 0 t0 [] [] ks) r6 = Q) := hid ((thenP_good hq).symm.trans HQ8.out)
                clear y0 y1 y2 y3 y4 y5 y6 y7 yz c0 c1 c2 c3 c4 c5 c6 c7 cz
                obtain ⟨y0, y1, y2, y3, y4, y5, y6, y7, yz⟩ := cells8 hnb9
                obtain ⟨c0, c1, c2, c3, c4, c5, c6, c7, cz⟩ := cells8 HRS9.out
                clear h5 tn kn hq hnb9
                obtain ⟨xs, q1, q2⟩ := HR9.out.sl foot_no
                have HQ1 := hid q1
                have HQ2 := hid q2
                clear q1 q2
                go_wp2_with fail
                have tF := put8_turn w6 w.heap.size (.int .i64 17) (.string ⟨#[]⟩) (.int .i64 0) (.int .i64 (t0.line : Nat)) (.int .i64 (t0.col : Nat)) (.slice none 0 0) (.slice none 0 0) (.slice A8 ks.length c8)
                refine bodyPost_ret (res_cell rfl rfl (put8_block HRS9.out _ _ _ _ _ _ _ _) Tryz.underlying49 rfl (by kernel_rfl)) rfl ?_
                exact ReadsP.done HQ9.out.symm (new_turn8 HT9.out (by omega)) ⟨_, rfl, .mk (SlG.nil _ _ _) .nil (SlG.nil _ _ _) ((HQ1.out.turn tF (fun g _ h e => by rcases h with h | h <;> omega)).mono (fun g _ h => by rcases h with h | h <;> omega)) (nos_row (row_mono foot_no (fun g _ h => by rcases h with h | h <;> omega) (row_turn foot_no tF (fun g _ h e => by rcases h with h | h <;> omega) HQ2.out)))⟩ (HK9.out.put8_ (by omega))
          · have HQ5 : Hid (thenP expr (fun x => thenP (wantP [41]) fun _ => retP x) r4 = Q) := hid ((thenP_good HQ4.out).symm.trans HQ3.out)
            have HP := hid (HEX w4 bp B r4 HK4.out)
            go_wp2_with fail
            refine (HP.out).mono ?_
            rintro e w5 h5
            rcases hq : expr r4 with g | ⟨x, r5⟩
            · obtain ⟨rfl, tn, bn⟩ := h5.bad_ hq
              have HB := hid (BadP.mk2 (turn_bp HT4.out tn) bn)
              have HQB := hid (HQ5.out.symm.trans (thenP_bad hq))
              clear h5 tn bn hq
              go_wp2_with fail
              exact ⟨rfl, ReadsP.fail HQB.out HB.out⟩
            · obtain ⟨v5, rfl, tn, ⟨z5, rfl, hz⟩, kn⟩ := h5.good_ hq
              obtain ⟨k4, s4, n4, l4, o4, A14, n14, c14, A24, n24, c24, A34, n34, c34, rfl⟩ := hz.shape'
              have hs5 := tn.size
              have hnb5 := block_turn HNB4.out tn (by omega)
              clear y0 y1 y2 y3 y4 y5 y6 y7 yz
              obtain ⟨y0, y1, y2, y3, y4, y5, y6, y7, yz⟩ := cells8 hnb5
              have tP := put8_turn w5 w2.heap.size (.int .i64 k4) (sv s4) (.int .i64 n4) (.int .i64 l4) (.int .i64 o4) (.slice A14 n14 c14) (.slice A24 n24 c24) (.slice A34 n34 c34)
              have HT5 := hid ((turn_bp HT4.out tn).trans tP (fun i hi e => by omega))
              have HK5 := hid (kn.put8_ (a := w2.heap.size) (v0 := .int .i64 k4) (v1 := sv s4) (v2 := .int .i64 n4) (v3 := .int .i64 l4) (v4 := .int .i64 o4) (v5 := .slice A14 n14 c14) (v6 := .slice A24 n24 c24) (v7 := .slice A34 n34 c34) (by omega))
              have HRS5 := hid (block_turn (block_turn HRS4.out tn (by omega)) tP (by omega))
              have HNB5 := hid (put8_block hnb5 (.int .i64 k4) (sv s4) (.int .i64 n4) (.int .i64 l4) (.int .i64 o4) (.slice A14 n14 c14) (.slice A24 n24 c24) (.slice A34 n34 c34))
              have HZ5 := hid ((hz.iv.turn tP (fun g _ h e => by have := h.1; omega)).mono (G := Iv w4.heap.size w5.heap.size) (fun g _ h => h))
              have hsP := tP.size
              have HQ6 : Hid (thenP (wantP [41]) (fun _ => retP x) r5 = Q) := hid ((thenP_good hq).symm.trans HQ5.out)
              have HN := hid (want_lit (put8 w5 w2.heap.size (.int .i64 k4) (sv s4) (.int .i64 n4) (.int .i64 l4) (.int .i64 o4) (.slice A14 n14 c14) (.slice A24 n24 c24) (.slice A34 n34 c34)) bp B r5 d HK5.out [41] 9 w5.heap.size)
              clear h5 tn tP hz kn hq hnb5
              go_wp2_with fail
              refine (HN.out).mono ?_
              rintro e w6 h5
              rcases hq : wantP [41] r5 with g | ⟨u, r6⟩
              · obtain ⟨rfl, tn, bn⟩ := h5.bad_ hq
                have HB := hid (BadP.mk2 (turn_bp HT5.out tn) bn)
                have HQB := hid (HQ6.out.symm.trans (thenP_bad hq))
                clear h5 tn bn hq
                go_wp2_with fail
                exact ⟨rfl, ReadsP.fail HQB.out HB.out⟩
              · obtain ⟨v6, rfl, tn, -, kn⟩ := h5.good_ hq
                have HZ6 := hid (HZ5.out.turn tn (fun g _ h e => by have := h.1; omega))
                have HQ5 := HQ6
                have hs7 := tn.size
                have HT7 := hid (turn_bp HT5.out tn)
                have HK7 := hid kn
                have HRS7 := hid (block_turn HRS5.out tn (by omega))
                have hnb7 := block_turn HNB5.out tn (by omega)
                have HQ7 : Hid (Pr.good (x) r6 = Q) := hid ((thenP_good hq).symm.trans HQ5.out)
                clear y0 y1 y2 y3 y4 y5 y6 y7 yz c0 c1 c2 c3 c4 c5 c6 c7 cz
                obtain ⟨y0, y1, y2, y3, y4, y5, y6, y7, yz⟩ := cells8 hnb7
                obtain ⟨c0, c1, c2, c3, c4, c5, c6, c7, cz⟩ := cells8 HRS7.out
                clear h5 tn kn hq hnb7
                go_wp2_with fail
                have tF := put8_turn w6 w.heap.size (.int .i64 k4) (sv s4) (.int .i64 n4) (.int .i64 l4) (.int .i64 o4) (.slice A14 n14 c14) (.slice A24 n24 c24) (.slice A34 n34 c34)
                refine bodyPost_ret (res_cell rfl rfl (put8_block HRS7.out _ _ _ _ _ _ _ _) Tryz.underlying49 rfl (by kernel_rfl)) rfl ?_
                exact ReadsP.done HQ7.out.symm (new_turn8 HT7.out (by omega)) ⟨_, rfl, (HZ6.out.turn tF (fun g _ h e => by have := h.1; omega)).mono (fun g _ h => by have := h.1; omega)⟩ (HK7.out.put8_ (by omega))
          · have HQ5 : Hid (thenP (recP expr t0) (fun x => thenP (wantP [125]) fun _ => retP x) r4 = Q) := hid ((thenP_good HQ4.out).symm.trans HQ3.out)
            have HP := hid (record_any d expr hse HEX w4 bp B w2.heap.size t0 r4 HK4.out HNB4.out (by omega))
            go_wp2_with fail
            refine (HP.out).mono ?_
            rintro e w5 h5
            rcases hq : recP expr t0 r4 with g | ⟨x, r5⟩
            · obtain ⟨rfl, tn, bn⟩ := h5.bad_ hq
              have HB := hid (BadP.mk2 (HT4.out.trans tn (fun i hi e => by rcases e with e | e; exact e; omega)) bn)
              have HQB := hid (HQ5.out.symm.trans (thenP_bad hq))
              clear h5 tn bn hq
              go_wp2_with fail
              exact ⟨rfl, ReadsP.fail HQB.out HB.out⟩
            · obtain ⟨v5, rfl, tn, ⟨rfl, z5, hb5, hz⟩, kn⟩ := h5.good_ hq
              obtain ⟨k4, s4, n4, l4, o4, A14, n14, c14, A24, n24, c24, A34, n34, c34, rfl⟩ := hz.shape'
              have hs5 := tn.size
              have HT5 := hid (HT4.out.trans tn (fun i hi e => by rcases e with e | e; exact e; omega))
              have HK5 := hid kn
              have HRS5 := hid (block_turn HRS4.out tn (fun e => by rcases e with e | e <;> omega))
              have HNB5 := hid hb5
              have HZ5 := hid hz.iv
              have HQ6 : Hid (thenP (wantP [125]) (fun _ => retP x) r5 = Q) := hid ((thenP_good hq).symm.trans HQ5.out)
              have HN := hid (want_lit w5 bp B r5 d kn [125] 9 w5.heap.size)
              clear h5 tn hz kn hq hb5
              go_wp2_with fail
              refine (HN.out).mono ?_
              rintro e w6 h5
              rcases hq : wantP [125] r5 with g | ⟨u, r6⟩
              · obtain ⟨rfl, tn, bn⟩ := h5.bad_ hq
                have HB := hid (BadP.mk2 (turn_bp HT5.out tn) bn)
                have HQB := hid (HQ6.out.symm.trans (thenP_bad hq))
                clear h5 tn bn hq
                go_wp2_with fail
                exact ⟨rfl, ReadsP.fail HQB.out HB.out⟩
              · obtain ⟨v6, rfl, tn, -, kn⟩ := h5.good_ hq
                have HZ6 := hid (HZ5.out.turn tn (fun g _ h e => by have := h.1; omega))
                have HQ5 := HQ6
                have hs7 := tn.size
                have HT7 := hid (turn_bp HT5.out tn)
                have HK7 := hid kn
                have HRS7 := hid (block_turn HRS5.out tn (by omega))
                have hnb7 := block_turn HNB5.out tn (by omega)
                have HQ7 : Hid (Pr.good (x) r6 = Q) := hid ((thenP_good hq).symm.trans HQ5.out)
                clear y0 y1 y2 y3 y4 y5 y6 y7 yz c0 c1 c2 c3 c4 c5 c6 c7 cz
                obtain ⟨y0, y1, y2, y3, y4, y5, y6, y7, yz⟩ := cells8 hnb7
                obtain ⟨c0, c1, c2, c3, c4, c5, c6, c7, cz⟩ := cells8 HRS7.out
                clear h5 tn kn hq hnb7
                go_wp2_with fail
                have tF := put8_turn w6 w.heap.size (.int .i64 k4) (sv s4) (.int .i64 n4) (.int .i64 l4) (.int .i64 o4) (.slice A14 n14 c14) (.slice A24 n24 c24) (.slice A34 n34 c34)
                refine bodyPost_ret (res_cell rfl rfl (put8_block HRS7.out _ _ _ _ _ _ _ _) Tryz.underlying49 rfl (by kernel_rfl)) rfl ?_
                exact ReadsP.done HQ7.out.symm (new_turn8 HT7.out (by omega)) ⟨_, rfl, (HZ6.out.turn tF (fun g _ h e => by have := h.1; omega)).mono (fun g _ h => by have := h.1; omega)⟩ (HK7.out.put8_ (by omega))
end Go.Proofs.YtmbppnbekkbibaaGreatDoor
end
section
/- Types, expressions and what stands behind a minus, at every level. -/
set_option linter.unusedVariables false
namespace Go.Proofs.YtmbppnbekkbibaaGreatDoor
open Go.RowKit

theorem expr_deep : ExprC 100 (failP 6) := by
  intro w bp B ts h
  have HE := hid (enter_deep (w.alloc (.cells #[.int .i64 0, .string ⟨#[]⟩, .int .i64 0, .int .i64 0, .int .i64 0, .slice none 0 0, .slice none 0 0, .slice none 0 0] 49)) bp B ts (h.below (new1 _ _)))
  clear h
  go_enter_defers Tryz.func49, Tryz.ntmps49
  go_wp2_with fail
  refine (HE.out).mono ?_
  rintro e w1 ⟨rfl, hb⟩
  go_wp2_with fail
  exact ReadsP.fail (P := PNo w.heap.size) (B := B) (d := 100) (q := failP 6 ts) rfl ⟨(after1 hb.1).1, hb.2⟩
/-- The ranks, from unary on. -/
theorem rank_all (d : Int) (typ : Ps TyD) (unary : Ps NoD) (hst : Sf typ) (hsu : Sf unary) (HTY : TypC d typ) (HU : UnaryC d unary) : RankC d 0 (rankF typ unary 6) := by
  have h6 : RankC d 6 (rankF typ unary 0) := rank_six d unary HU
  have h5 : RankC d 5 (rankF typ unary 1) := rank_left d 5 (by omega) _ (Sf.rank hst hsu 0) h6
  have h4 : RankC d 4 (rankF typ unary 2) := rank_left d 4 (by omega) _ (Sf.rank hst hsu 1) h5
  have h3 : RankC d 3 (rankF typ unary 3) := rank_left d 3 (by omega) _ (Sf.rank hst hsu 2) h4
  have h2 : RankC d 2 (rankF typ unary 4) := rank_two d _ (cmp_any d typ HTY _ (Sf.rank hst hsu 3) h3)
  have h1 : RankC d 1 (rankF typ unary 5) := rank_left d 1 (by omega) _ (Sf.rank hst hsu 4) h2
  exact rank_left d 0 (by omega) _ (Sf.rank hst hsu 5) h1
theorem lev_all : ∀ n : Nat, n ≤ 100 → ExprC (100 - (n : Int)) (levP n).expr ∧ UnaryC (100 - (n : Int)) (levP n).unary
  | 0, _ => ⟨expr_deep, unary_deep⟩
  | n + 1, h => by
    obtain ⟨ihe, ihu⟩ := lev_all n (by omega)
    have iht := typ_all n (by omega)
    obtain ⟨s1, s2, s3⟩ := Sf.lev n
    have e : (100 : Int) - ((n + 1 : Nat) : Int) + 1 = 100 - (n : Int) := by omega
    refine ⟨expr_step (100 - ((n + 1 : Nat) : Int)) (by omega) (by omega) (levP n).typ (levP n).expr (levP n).unary s1 ?_ ?_ ?_, unary_step (100 - ((n + 1 : Nat) : Int)) (by omega) (by omega) (levP n).typ (levP n).expr (levP n).unary ?_ ?_⟩
    · rw [e]; exact iht
    · rw [e]; exact ihe
    · rw [e]; exact rank_all _ _ _ s1 s3 iht ihu
    · rw [e]; exact ihu
    · rw [e]; exact post_any _ _ _ s2 ihe (atom_any _ _ _ s1 s2 iht ihe)
theorem expr_any (w : World) (bp B : Nat) (ts : List TokD) (h : TkAt w bp B ts 0) : Calls Tryz.prog 49 #[.pointer (some ⟨bp, 0, none⟩)] w (ReadsP (PNo w.heap.size) bp B 0 w ((levP 100).expr ts)) :=
  (lev_all 100 (Nat.le_refl _)).1 w bp B ts h
theorem typ_any (w : World) (bp B : Nat) (ts : List TokD) (h : TkAt w bp B ts 0) : Calls Tryz.prog 53 #[.pointer (some ⟨bp, 0, none⟩)] w (ReadsP (PTy w.heap.size) bp B 0 w ((levP 100).typ ts)) :=
  typ_all 100 (Nat.le_refl _) w bp B ts h
end Go.Proofs.YtmbppnbekkbibaaGreatDoor
end
section
/- Imports, variables for types, functions and modules, read from memory of a footprint. -/
set_option linter.unusedVariables false
namespace Go.Proofs.YtmbppnbekkbibaaGreatDoor
open Go.RowKit

/-- Four cells read as an import, from blocks of F. -/
def ImG (w : World) (F : Nat → Prop) (z : List Value) (i : ImD) : Prop := ∃ vn, z = [sv i.from_, vn, .int .i64 i.line, .int .i64 i.col] ∧ SlG w F 1 vn (svs i.names)
/-- Five cells read as a variable for a type. -/
def VaG (w : World) (F : Nat → Prop) (z : List Value) (v : VaD) : Prop := ∃ y, z = sv v.name :: y ∧ TyG w F y v.bound
/-- Fifteen cells read as a function. -/
def DeG (w : World) (F : Nat → Prop) (z : List Value) (d : DeD) : Prop :=
  ∃ vv xv vt xt y, z = [sv d.name, .bool d.exp, vv, sv d.param, vt] ++ (y ++ [.int .i64 d.line, .int .i64 d.col]) ∧ SlG w F 5 vv xv ∧ TRow (VaG w F) 5 xv d.vars ∧ SlG w F 4 vt xt ∧ TysG w F xt d.types ∧ NoG w F y d.body
/-- Two cells read as a module. -/
def MoG (w : World) (F : Nat → Prop) (z : List Value) (m : MoD) : Prop :=
  ∃ vi xi vd xd, z = [vi, vd] ∧ SlG w F 4 vi xi ∧ TRow (ImG w F) 4 xi m.imps ∧ SlG w F 15 vd xd ∧ TRow (DeG w F) 15 xd m.decls
section
variable {w w' : World} {F G : Nat → Prop} {z : List Value} {B : Nat}
theorem ImG.turn {i : ImD} (h : ImG w F z i) (t : Turn G w w') (hd : ∀ g, g < w.heap.size → F g → ¬ G g) : ImG w' F z i := by
  obtain ⟨vn, e, h1⟩ := h
  exact ⟨vn, e, h1.turn t hd⟩
theorem ImG.mono {i : ImD} (h : ImG w F z i) (hF : ∀ g, g < w.heap.size → F g → G g) : ImG w G z i := by
  obtain ⟨vn, e, h1⟩ := h
  exact ⟨vn, e, h1.mono hF⟩
theorem ImG.to {i : ImD} (h : ImG w F z i) (hF : ∀ g, g < w.heap.size → F g → g < B) : ImR w B z i := by
  obtain ⟨vn, e, h1⟩ := h
  exact ⟨vn, e, h1.to hF⟩
theorem VaG.turn {i : VaD} (h : VaG w F z i) (t : Turn G w w') (hd : ∀ g, g < w.heap.size → F g → ¬ G g) : VaG w' F z i := by
  obtain ⟨vn, e, h1⟩ := h
  exact ⟨vn, e, h1.turn t hd⟩
theorem VaG.mono {i : VaD} (h : VaG w F z i) (hF : ∀ g, g < w.heap.size → F g → G g) : VaG w G z i := by
  obtain ⟨vn, e, h1⟩ := h
  exact ⟨vn, e, h1.mono hF⟩
theorem VaG.to {i : VaD} (h : VaG w F z i) (hF : ∀ g, g < w.heap.size → F g → g < B) : VaR w B z i := by
  obtain ⟨vn, e, h1⟩ := h
  exact ⟨vn, e, h1.to hF⟩
theorem DeG.turn {i : DeD} (h : DeG w F z i) (t : Turn G w w') (hd : ∀ g, g < w.heap.size → F g → ¬ G g) : DeG w' F z i := by
  obtain ⟨vv, xv, vt, xt, y, e, h1, h2, h3, h4, h5⟩ := h
  exact ⟨vv, xv, vt, xt, y, e, h1.turn t hd, h2.imp fun _ _ h => h.turn t hd, h3.turn t hd, h4.turn t hd, h5.turn t hd⟩
theorem DeG.mono {i : DeD} (h : DeG w F z i) (hF : ∀ g, g < w.heap.size → F g → G g) : DeG w G z i := by
  obtain ⟨vv, xv, vt, xt, y, e, h1, h2, h3, h4, h5⟩ := h
  exact ⟨vv, xv, vt, xt, y, e, h1.mono hF, h2.imp fun _ _ h => h.mono hF, h3.mono hF, h4.mono hF, h5.mono hF⟩
theorem DeG.to {i : DeD} (h : DeG w F z i) (hF : ∀ g, g < w.heap.size → F g → g < B) : DeR w B z i := by
  obtain ⟨vv, xv, vt, xt, y, e, h1, h2, h3, h4, h5⟩ := h
  exact ⟨vv, xv, vt, xt, y, e, h1.to hF, h2.imp fun _ _ h => h.to hF, h3.to hF, h4.to hF, h5.to hF⟩
theorem MoG.turn {i : MoD} (h : MoG w F z i) (t : Turn G w w') (hd : ∀ g, g < w.heap.size → F g → ¬ G g) : MoG w' F z i := by
  obtain ⟨vi, xi, vd, xd, e, h1, h2, h3, h4⟩ := h
  exact ⟨vi, xi, vd, xd, e, h1.turn t hd, h2.imp fun _ _ h => h.turn t hd, h3.turn t hd, h4.imp fun _ _ h => h.turn t hd⟩
theorem MoG.mono {i : MoD} (h : MoG w F z i) (hF : ∀ g, g < w.heap.size → F g → G g) : MoG w G z i := by
  obtain ⟨vi, xi, vd, xd, e, h1, h2, h3, h4⟩ := h
  exact ⟨vi, xi, vd, xd, e, h1.mono hF, h2.imp fun _ _ h => h.mono hF, h3.mono hF, h4.imp fun _ _ h => h.mono hF⟩
theorem MoG.to {i : MoD} (h : MoG w F z i) (hF : ∀ g, g < w.heap.size → F g → g < B) : MoR w B z i := by
  obtain ⟨vi, xi, vd, xd, e, h1, h2, h3, h4⟩ := h
  exact ⟨vi, xi, vd, xd, e, h1.to hF, h2.imp fun _ _ h => h.to hF, h3.to hF, h4.imp fun _ _ h => h.to hF⟩
theorem ImG.all {i : ImD} (h : ImG w F z i) : ImR w w.heap.size z i := h.to fun _ hg _ => hg
theorem VaG.all {i : VaD} (h : VaG w F z i) : VaR w w.heap.size z i := h.to fun _ hg _ => hg
theorem DeG.all {i : DeD} (h : DeG w F z i) : DeR w w.heap.size z i := h.to fun _ hg _ => hg
theorem MoG.all {i : MoD} (h : MoG w F z i) : MoR w w.heap.size z i := h.to fun _ hg _ => hg
/-- The cells, one by one. -/
theorem ImG.shape' {i : ImD} (h : ImG w F z i) : ∃ A n c, z = [sv i.from_, .slice A n c, .int .i64 i.line, .int .i64 i.col] := by
  obtain ⟨vn, rfl, A, n, c, rfl, _⟩ := h
  exact ⟨A, n, c, rfl⟩
theorem VaG.shape' {i : VaD} (h : VaG w F z i) : ∃ k s A1 n1 c1 A2 n2 c2, z = [sv i.name, .int .i64 k, sv s, .slice A1 n1 c1, .slice A2 n2 c2] := by
  obtain ⟨y, rfl, h⟩ := h
  generalize i.bound = b at h
  cases h with
  | mk h1 h2 h3 =>
    obtain ⟨A1, n1, c1, rfl, _⟩ := h1
    obtain ⟨A2, n2, c2, rfl, _⟩ := h2
    exact ⟨_, _, _, _, _, _, _, _, rfl⟩
theorem DeG.shape' {i : DeD} (h : DeG w F z i) : ∃ A1 n1 c1 A2 n2 c2 k s a b c A3 n3 c3 A4 n4 c4 A5 n5 c5, z = [sv i.name, .bool i.exp, .slice A1 n1 c1, sv i.param, .slice A2 n2 c2, .int .i64 k, sv s, .int .i64 a, .int .i64 b, .int .i64 c, .slice A3 n3 c3, .slice A4 n4 c4, .slice A5 n5 c5, .int .i64 i.line, .int .i64 i.col] := by
  obtain ⟨vv, xv, vt, xt, y, rfl, ⟨A1, n1, c1, rfl, _⟩, _, ⟨A2, n2, c2, rfl, _⟩, _, h⟩ := h
  generalize i.body = x at h
  cases h with
  | mk h1 h2 h3 h4 h5 =>
    obtain ⟨A3, n3, c3, rfl, _⟩ := h1
    obtain ⟨A4, n4, c4, rfl, _⟩ := h3
    obtain ⟨A5, n5, c5, rfl, _⟩ := h4
    exact ⟨_, _, _, _, _, _, _, _, _, _, _, _, _, _, _, _, _, _, _, _, rfl⟩
end
theorem foot_im : FootR ImG 4 where
  turn h t hd := h.turn t hd
  mono h hF := h.mono hF
  len h := by obtain ⟨A, n, c, rfl⟩ := h.shape'; rfl
  one h := by
    obtain ⟨A, n, c, rfl⟩ := h.shape'
    intro u hu
    simp only [List.mem_cons, List.not_mem_nil, or_false] at hu
    rcases hu with rfl | rfl | rfl | rfl <;> rfl
theorem foot_va : FootR VaG 5 where
  turn h t hd := h.turn t hd
  mono h hF := h.mono hF
  len h := by obtain ⟨k, s, A1, n1, c1, A2, n2, c2, rfl⟩ := h.shape'; rfl
  one h := by
    obtain ⟨k, s, A1, n1, c1, A2, n2, c2, rfl⟩ := h.shape'
    intro u hu
    simp only [List.mem_cons, List.not_mem_nil, or_false] at hu
    rcases hu with rfl | rfl | rfl | rfl | rfl <;> rfl
theorem foot_de : FootR DeG 15 where
  turn h t hd := h.turn t hd
  mono h hF := h.mono hF
  len h := by obtain ⟨A1, n1, c1, A2, n2, c2, k, s, a, b, c, A3, n3, c3, A4, n4, c4, A5, n5, c5, rfl⟩ := h.shape'; rfl
  one h := by
    obtain ⟨A1, n1, c1, A2, n2, c2, k, s, a, b, c, A3, n3, c3, A4, n4, c4, A5, n5, c5, rfl⟩ := h.shape'
    intro u hu
    simp only [List.mem_cons, List.not_mem_nil, or_false] at hu
    rcases hu with rfl | rfl | rfl | rfl | rfl | rfl | rfl | rfl | rfl | rfl | rfl | rfl | rfl | rfl | rfl <;> rfl
end Go.Proofs.YtmbppnbekkbibaaGreatDoor
end
section
/- The contracts of vars and of its function that reads a variable for a type. -/
set_option linter.unusedVariables false
namespace Go.Proofs.YtmbppnbekkbibaaGreatDoor
open Go.RowKit

/-- One element more in a row of one's own. -/
theorem row_more {α : Type} {R : World → (Nat → Prop) → List Value → α → Prop} {k : Nat} (hR : FootR R k) {e : TypeId} {w w9 : World} {base : Nat} {F : Nat → Prop} {v v9 : Value} {l : List α} {x : α} {z ys : List Value} {n9 : Nat} {o : Obj} (h1 : w.ownsRow base e k v l.length ys) (h2 : TRow (R w (NewB F v)) k ys l)
    (hx : R w (NewB F v) z x) (hg : (w.alloc o).grownBy w9 v.ownBlock) (hbk : v9.ownBlock = v.ownBlock ∨ v9.ownBlock = some (w.alloc o).heap.size) (h9 : w9.ownsRow base e k v9 n9 (ys ++ z)) (hk : 0 < k) : RowG R k e w9 base F v9 (l ++ [x]) ∧ n9 = l.length + 1 ∧ Turn (fun j => v.ownBlock = some j) w w9 := by
  have hn : n9 = (l ++ [x]).length := by
    have e1 := h9.1
    have e2 := h1.1
    have e3 := hR.len hx
    rw [List.length_append, e2, e3] at e1
    rw [List.length_append, List.length_singleton]
    have : n9 * k = (l.length + 1) * k := by rw [← e1, Nat.add_mul, Nat.one_mul]
    exact Nat.eq_of_mul_eq_mul_right hk this
  subst hn
  have t9 : Turn (fun j => v.ownBlock = some j) w w9 := (Turn.alloc (fun j => v.ownBlock = some j) w o).trans (Turn.of_grown hg (fun _ h => h)) (fun _ _ h => h)
  have go : ∀ {z : List Value} {x : α}, R w (NewB F v) z x → R w9 (NewB F v9) z x := fun h => by
    have h3 : R w (fun j => j < w.heap.size ∧ NewB F v j) _ _ := hR.mono h fun j hj h => ⟨hj, h⟩
    refine hR.mono (hR.turn h3 t9 (fun j _ h e => h.2.1 e)) fun j _ h => ⟨fun e => ?_, h.2.2⟩
    rcases hbk with hb | hb
    · rw [hb] at e; exact h.2.1 e
    · rw [hb] at e; injection e with e; have := h.1; simp at e; omega
  exact ⟨⟨_, h9, TRow.app (trow1 (hR.len hx) (go hx)) (h2.imp fun _ _ h => go h)⟩, by simp, t9⟩
theorem cells5 {w : World} {b : Nat} {a0 a1 a2 a3 a4 : Value} {t : TypeId} (h : w.heap[b]? = some (.cells #[a0, a1, a2, a3, a4] t (0, 0))) : w.cell? ⟨b, 0, none⟩ = some a0 ∧ w.cell? ⟨b, 1, none⟩ = some a1 ∧ w.cell? ⟨b, 2, none⟩ = some a2 ∧ w.cell? ⟨b, 3, none⟩ = some a3 ∧ w.cell? ⟨b, 4, none⟩ = some a4 ∧ ∀ i, w.frozen? ⟨b, i, none⟩ = false :=
  ⟨(cell_of_row _ _ _ _ _ _ h).trans rfl, (cell_of_row _ _ _ _ _ _ h).trans rfl, (cell_of_row _ _ _ _ _ _ h).trans rfl, (cell_of_row _ _ _ _ _ _ h).trans rfl, (cell_of_row _ _ _ _ _ _ h).trans rfl, fun i => frozen_of_row _ _ _ _ _ h⟩
theorem el_va : ElemIs Tryz.prog 45 133 (.agg #[.string ⟨#[]⟩, .int .i64 0, .string ⟨#[]⟩, .slice none 0 0, .slice none 0 0]) 5 88 := ⟨Tryz.underlying45, by kernel_rfl, rfl, by omega⟩
theorem va_one (s0 : Bt) (k : Int) (s : Bt) (A1 A2 : Option Addr) (n1 c1 n2 c2 : Nat) : ∀ u ∈ #[sv s0, Value.int .i64 k, sv s, .slice A1 n1 c1, .slice A2 n2 c2].toList, u.oneCell' = true := by
  intro u hu
  simp only [List.mem_cons, List.not_mem_nil, or_false] at hu
  rcases hu with rfl | rfl | rfl | rfl | rfl <;> rfl
/-- The list while variables are read. -/
def VarI (pb lb base bp : Nat) (w : World) (l : List VaD) : Prop :=
  w.heap[pb]? = some (.cells #[.pointer (some ⟨bp, 0, none⟩)] 94 (0, 0)) ∧ ∃ v, w.heap[lb]? = some (.cells #[v] 45 (0, 0)) ∧ RowG VaG 5 133 w base (fun j => base ≤ j) v l
theorem VarI.turn {pb lb base bp : Nat} {w w' : World} {l : List VaD} {G : Nat → Prop} (h : VarI pb lb base bp w l) (tn : Turn G w w') (h1 : ¬ G pb) (h2 : ¬ G lb) (h3 : ∀ j, base ≤ j → j < w.heap.size → ¬ G j) : VarI pb lb base bp w' l := by
  obtain ⟨hb, v, hn, hr⟩ := h
  exact ⟨block_turn hb tn h1, v, block_turn hn tn h2, hr.turn foot_va tn (fun g hg => h3 g (hr.lt g hg).1 (hr.lt g hg).2) (fun g hg h => h3 g h hg)⟩
set_option maxRecDepth 100000 in
set_option maxHeartbeats 8000000 in
theorem pvars1_any (w : World) (bp B pb lb base : Nat) (ts : List TokD) (l : List VaD) (hl : l.length ≤ 8193) (h : TkAt w bp B ts 0) (hI : VarI pb lb base bp w l) (p1 : bp < pb) (p2 : bp < lb) (p3 : pb < base) (p4 : lb < base) (p5 : pb ≠ lb) (p6 : base ≤ w.heap.size) :
    Calls Tryz.prog 166 #[.pointer (some ⟨pb, 0, none⟩), .pointer (some ⟨lb, 0, none⟩)] w (AddsP (VarI pb lb base bp) (fun k => k = bp ∨ k = lb ∨ base ≤ k) bp B 0 w (moreP varP l ts)) := by
  have hlt := h.lt
  obtain ⟨Q, hQ⟩ : ∃ Q, moreP varP l ts = Q := ⟨_, rfl⟩
  rw [hQ]
  have HQ : Hid (thenP varP (fun x => retP (l ++ [x])) ts = Q) := hid hQ
  have HN := hid (pname_any w bp B ts 0 h)
  have HI := hid hI
  have hbx := cells1 hI.1
  obtain ⟨hb0, vk, hlb0, hrow0⟩ := hI
  obtain ⟨Ak, ck, rfl, hck, hmk⟩ := hrow0.shape
  have HLO := hid hrow0.lt
  have HIT : Hid (∀ w', Turn (fun k => k = bp) w w' → w'.heap[pb]? = some (.cells #[.pointer (some ⟨bp, 0, none⟩)] 94 (0, 0)) ∧ w'.heap[lb]? = some (.cells #[.slice Ak l.length ck] 45 (0, 0)) ∧ RowG VaG 5 133 w' base (fun j => base ≤ j) (.slice Ak l.length ck) l) := hid fun w' t => ⟨block_turn hb0 t (by omega), block_turn hlb0 t (by omega), hrow0.turn foot_va t (fun g hg e => by have := (hrow0.lt g hg).1; omega) (fun g _ h e => by omega)⟩
  clear h hQ hb0 hlb0 hrow0
  go_enter Tryz.func166, Tryz.ntmps166
  go_wp2_with fail
  refine (HN.out).mono ?_
  rintro e w1 h1
  rcases hq : nameP ts with g | ⟨s, r1⟩
  · obtain ⟨rfl, tn, bn⟩ := h1.bad_ hq
    have HB := hid (show Turn (fun k => k = bp ∨ k = lb ∨ base ≤ k) w _ from tn.mono fun _ _ h => .inl h)
    have HBN := hid bn
    have HQB := hid (HQ.out.symm.trans (then2_bad hq))
    clear h1 tn bn hq
    go_wp2_with fail
    exact ⟨rfl, AddsP.fail HQB.out HB.out HBN.out⟩
  · obtain ⟨v1, rfl, tn, rfl, kn⟩ := h1.good_ hq
    have hs1 := tn.size
    have HV1 := hid (at1 w1 (.cells #[sv s, .int .i64 0, .string ⟨#[]⟩, .slice none 0 0, .slice none 0 0] 133))
    have HK1 := hid (kn.below (new1 w1 (.cells #[sv s, .int .i64 0, .string ⟨#[]⟩, .slice none 0 0, .slice none 0 0] 133)))
    have HT1A := hid (turn_bp tn (Turn.alloc (fun k => k = bp) w1 (.cells #[sv s, .int .i64 0, .string ⟨#[]⟩, .slice none 0 0, .slice none 0 0] 133)))
    have HH := hid (has_any (w1.alloc (.cells #[sv s, .int .i64 0, .string ⟨#[]⟩, .slice none 0 0, .slice none 0 0] 133)) bp B r1 0 HK1.out [60, 58])
    have HQ1 : Hid (thenP (thenP (hasP [60, 58]) (fun b => if b then thenP (levP 100).typ fun t => retP (⟨s, t⟩ : VaD) else retP ⟨s, anyT⟩)) (fun x => retP (l ++ [x])) r1 = Q) := hid ((then2_good hq).symm.trans HQ.out)
    have hbx1 := cells1 (HIT.out _ tn).1
    have hpl := block_lt (HIT.out _ tn).1
    clear h1 tn kn hq hbx
    go_wp2_with fail
    refine (HH.out).mono ?_
    rintro e w2 h2
    rcases hq : hasP [60, 58] r1 with g | ⟨b, r2⟩
    · exact (hasP_bad hq).elim
    · obtain ⟨v2, rfl, tn, rfl, kn⟩ := h2.good_ hq
      have hs2 := tn.size
      simp at hs2
      have HT2 := hid (turn_bp HT1A.out tn)
      have hv2 := block_turn HV1.out tn (by omega)
      have HV2 := hid hv2
      have HK2 := hid kn
      have HQ2 := hid hq
      have hbx2 := cells1 (HIT.out _ HT2.out).1
      have hlc2 := cells1 (HIT.out _ HT2.out).2.1
      have hpl2 := block_lt (HIT.out _ HT2.out).1
      have hll2 := block_lt (HIT.out _ HT2.out).2.1
      obtain ⟨m0, m1, m2, m3, m4, mz⟩ := cells5 hv2
      clear h2 tn kn hq hv2 hbx1 hpl
      cases b
      · have HQ3 : Hid (Pr.good (l ++ [(⟨s, anyT⟩ : VaD)]) r2 = Q) := hid ((then2_good HQ2.out).symm.trans HQ1.out)
        obtain ⟨hb6, hlb6, hrow6⟩ := HIT.out _ HT2.out
        obtain ⟨ys, hy, hr⟩ := hrow6
        have hyl : ys.length = l.length * 5 := by have := hy.1; simpa using this
        have HY := hid hy
        have HR := hid hr
        have HLB := hid hlb6
        have HB6 := hid hb6
        have hsl := sl_new w2 #[sv s, .int .i64 0, .string ⟨#[]⟩, .slice none 0 0, .slice none 0 0] 133 5 1 rfl (by decide)
        have HSL := hid hsl
        clear hy hr hlb6 hb6 hsl
        go_wp2_with (at_builtin; go_must (refine wpList_app rfl (.tmp 15) (.tmp 17) _ rfl base el_va _ _ rfl rfl (HY.out.alloc (.cells #[sv s, .int .i64 0, .string ⟨#[]⟩, .slice none 0 0, .slice none 0 0] 133)) HSL.out (va_one s 0 [] none none 0 0 0 0) (by simp [maxLen]; omega) (by simp; omega) (by simp; omega) (fun v9 w9 n9 hown9 hg9 hbk9 => ?_)); obtain ⟨A9, c9, rfl, _, _⟩ := own_sh hown9; have HOWN9 := hid hown9; have HG9 := hid hg9; have HBK9 := hid hbk9; have hlb9 := block_turn HLB.out ((Turn.alloc (fun j => (Value.slice Ak l.length ck).ownBlock = some j) _ (.cells #[sv s, .int .i64 0, .string ⟨#[]⟩, .slice none 0 0, .slice none 0 0] 133)).trans (Turn.of_grown hg9 (F := fun j => (Value.slice Ak l.length ck).ownBlock = some j) (fun _ h => h)) (fun _ _ h => h)) (fun e => by have := (HLO.out _ e).1; omega); have hl9 := cells1 hlb9; have hz9 := block_free hlb9 0; clear hown9 hg9 hbk9 hlb9)
        obtain ⟨hrow9, hn9, t9⟩ := row_more foot_va HY.out HR.out (x := (⟨s, anyT⟩ : VaD)) ⟨_, rfl, ty_plain _ _ 0 []⟩ HG9.out HBK9.out HOWN9.out (by omega)
        have hlo := HLO.out
        have tl := turn_set w9 lb 0 (.slice A9 n9 c9)
        have tall : Turn (fun k => k = bp ∨ k = lb ∨ base ≤ k) w (w9.setCell ⟨lb, 0, none⟩ (.slice A9 n9 c9)) := ((HT2.out.mono (G := fun k => k = bp ∨ k = lb ∨ base ≤ k) (fun _ _ h => .inl h)).trans t9 (fun i hi e => .inr (.inr (hlo i e).1))).trans tl (fun i hi e => .inr (.inl e))
        go_end0
        exact AddsP.done HQ3.out.symm tall ⟨block_turn (block_turn HB6.out t9 (fun e => by have := (hlo _ e).1; omega)) tl (by omega), _, heap_setCell_same _ _ 0 _ _ _ (block_turn HLB.out t9 (fun e => by have := (hlo _ e).1; omega)), hrow9.turn foot_va tl (fun g hg e => by have := (hrow9.lt g hg).1; omega) (fun g _ hg e => by omega)⟩ ((HK2.out.turn t9 (fun e => by have := (hlo _ e).1; omega) (fun k hk e => by have := (hlo _ e).1; have := HK2.out.1; omega)).turn tl (by omega) (fun k hk e => by have := HK2.out.1; omega))
      · have HQ3 : Hid (thenP (thenP (levP 100).typ (fun t => retP (⟨s, t⟩ : VaD))) (fun x => retP (l ++ [x])) r2 = Q) := hid ((then2_good HQ2.out).symm.trans HQ1.out)
        have HP := hid (typ_any w2 bp B r2 HK2.out)
        go_wp2_with fail
        refine (HP.out).mono ?_
        rintro e w3 h5
        rcases hq : (levP 100).typ r2 with g | ⟨x, r3⟩
        · obtain ⟨rfl, tn, bn⟩ := h5.bad_ hq
          have HB := hid (show Turn (fun k => k = bp ∨ k = lb ∨ base ≤ k) w _ from (turn_bp HT2.out tn).mono fun _ _ h => .inl h)
          have HBN := hid bn
          have HQB := hid (HQ3.out.symm.trans (then2_bad hq))
          clear h5 tn bn hq
          go_wp2_with fail
          exact ⟨rfl, AddsP.fail HQB.out HB.out HBN.out⟩
        · obtain ⟨v3, rfl, tn, ⟨z3, rfl, hz⟩, kn⟩ := h5.good_ hq
          obtain ⟨k3, s3, A13, n13, c13, A23, n23, c23, rfl⟩ := hz.shape'
          have hs3 := tn.size
          have hv3 := block_turn HV2.out tn (by omega)
          clear m0 m1 m2 m3 m4 mz hbx2 hlc2 hpl2 hll2
          obtain ⟨m0, m1, m2, m3, m4, mz⟩ := cells5 hv3
          have HT3 := hid (turn_bp HT2.out tn)
          have t4 := (((turn_set w3 w1.heap.size 1 (.int .i64 k3)).trans (turn_set _ w1.heap.size 2 (sv s3)) (fun _ _ h => h)).trans (turn_set _ w1.heap.size 3 (.slice A13 n13 c13)) (fun _ _ h => h)).trans (turn_set _ w1.heap.size 4 (.slice A23 n23 c23)) (fun _ _ h => h)
          have HV4 := hid (heap_setCell_same _ _ 4 _ _ (.slice A23 n23 c23) (heap_setCell_same _ _ 3 _ _ (.slice A13 n13 c13) (heap_setCell_same _ _ 2 _ _ (sv s3) (heap_setCell_same _ _ 1 _ _ (.int .i64 k3) hv3))))
          have HX4 := hid ((hz.iv.turn t4 (fun g _ h e => by have := h.1; omega)).mono (G := fun j => w2.heap.size ≤ j) (fun g _ h => h.1))
          have hlc3 := cells1 (HIT.out _ HT3.out).2.1
          have hll3 := block_lt (HIT.out _ HT3.out).2.1
          have hlz3 := block_free (HIT.out _ HT3.out).2.1 0
          have HT4 := hid (HT3.out.trans t4 (fun i hi e => by omega))
          have HK4 := hid (kn.turn t4 (by omega) (fun k hk e => by have := HK2.out.1; omega))
          have HQ4 : Hid (Pr.good (l ++ [(⟨s, x⟩ : VaD)]) r3 = Q) := hid ((then2_good hq).symm.trans HQ3.out)
          have hne1 : ¬ w1.heap.size = lb := by omega
          have hne2 : ¬ lb = w1.heap.size := by omega
          clear h5 tn hz kn hq hv3 t4
          obtain ⟨hb6, hlb6, hrow6⟩ := HIT.out _ HT4.out
          obtain ⟨ys, hy, hr⟩ := hrow6
          have hyl : ys.length = l.length * 5 := by have := hy.1; simpa using this
          have HY := hid hy
          have HR := hid hr
          have HLB := hid hlb6
          have HB6 := hid hb6
          have hsl := sl_new ((((w3.setCell ⟨w1.heap.size, 1, none⟩ (.int .i64 k3)).setCell ⟨w1.heap.size, 2, none⟩ (sv s3)).setCell ⟨w1.heap.size, 3, none⟩ (.slice A13 n13 c13)).setCell ⟨w1.heap.size, 4, none⟩ (.slice A23 n23 c23)) #[sv s, .int .i64 k3, sv s3, .slice A13 n13 c13, .slice A23 n23 c23] 133 5 1 rfl (by decide)
          rw [show (((((w3.setCell ⟨w1.heap.size, 1, none⟩ (.int .i64 k3)).setCell ⟨w1.heap.size, 2, none⟩ (sv s3)).setCell ⟨w1.heap.size, 3, none⟩ (.slice A13 n13 c13)).setCell ⟨w1.heap.size, 4, none⟩ (.slice A23 n23 c23))).heap.size = w3.heap.size by simp] at hsl
          have HSL := hid hsl
          clear hy hr hlb6 hb6 hsl
          go_wp2_with (at_builtin; go_must (refine wpList_app rfl (.tmp 15) (.tmp 17) _ rfl base el_va _ _ rfl rfl (HY.out.alloc (.cells #[sv s, .int .i64 k3, sv s3, .slice A13 n13 c13, .slice A23 n23 c23] 133)) HSL.out (va_one s k3 s3 _ _ _ _ _ _) (by simp [maxLen]; omega) (by simp; omega) (by simp; omega) (fun v9 w9 n9 hown9 hg9 hbk9 => ?_)); obtain ⟨A9, c9, rfl, _, _⟩ := own_sh hown9; have HOWN9 := hid hown9; have HG9 := hid hg9; have HBK9 := hid hbk9; have hlb9 := block_turn HLB.out ((Turn.alloc (fun j => (Value.slice Ak l.length ck).ownBlock = some j) _ (.cells #[sv s, .int .i64 k3, sv s3, .slice A13 n13 c13, .slice A23 n23 c23] 133)).trans (Turn.of_grown hg9 (F := fun j => (Value.slice Ak l.length ck).ownBlock = some j) (fun _ h => h)) (fun _ _ h => h)) (fun e => by have := (HLO.out _ e).1; omega); have hl9 := cells1 hlb9; have hz9 := block_free hlb9 0; clear hown9 hg9 hbk9 hlb9)
          obtain ⟨hrow9, hn9, t9⟩ := row_more foot_va HY.out HR.out (x := (⟨s, x⟩ : VaD)) ⟨_, rfl, HX4.out.mono (fun g _ h => ⟨fun e => by have := (HLO.out _ e).2; omega, by omega⟩)⟩ HG9.out HBK9.out HOWN9.out (by omega)
          have hlo := HLO.out
          have tl := turn_set w9 lb 0 (.slice A9 n9 c9)
          have tall : Turn (fun k => k = bp ∨ k = lb ∨ base ≤ k) w (w9.setCell ⟨lb, 0, none⟩ (.slice A9 n9 c9)) := ((HT4.out.mono (G := fun k => k = bp ∨ k = lb ∨ base ≤ k) (fun _ _ h => .inl h)).trans t9 (fun i hi e => .inr (.inr (hlo i e).1))).trans tl (fun i hi e => .inr (.inl e))
          go_end0
          exact AddsP.done HQ4.out.symm tall ⟨block_turn (block_turn HB6.out t9 (fun e => by have := (hlo _ e).1; omega)) tl (by omega), _, heap_setCell_same _ _ 0 _ _ _ (block_turn HLB.out t9 (fun e => by have := (hlo _ e).1; omega)), hrow9.turn foot_va tl (fun g hg e => by have := (hrow9.lt g hg).1; omega) (fun g _ hg e => by omega)⟩ ((HK4.out.turn t9 (fun e => by have := (hlo _ e).1; omega) (fun k hk e => by have := (hlo _ e).1; have := HK4.out.1; omega)).turn tl (by omega) (fun k hk e => by have := HK4.out.1; omega))
/-- Variables for types, of new memory. -/
def PVars (base : Nat) (w : World) (v : Value) (l : List VaD) : Prop := ∃ xs, SlG w (fun j => base ≤ j) 5 v xs ∧ TRow (VaG w (fun j => base ≤ j)) 5 xs l
set_option maxRecDepth 100000 in
set_option maxHeartbeats 8000000 in
theorem pvars_any (w : World) (bp B : Nat) (ts : List TokD) (h : TkAt w bp B ts 0) : Calls Tryz.prog 132 #[.pointer (some ⟨bp, 0, none⟩)] w (ReadsP (PVars w.heap.size) bp B 0 w (varsP ts)) := by
  have hlt := h.lt
  obtain ⟨Q, hQ⟩ : ∃ Q, varsP ts = Q := ⟨_, rfl⟩
  rw [hQ]
  have HQ : Hid (thenP (hasP [91]) (fun b => if b then thenP (sepP varP) fun l => thenP (wantP [93]) fun _ => retP l else retP []) ts = Q) := hid hQ
  have HH := hid (has_any ((w.alloc (.cells #[.pointer (some ⟨bp, 0, none⟩)] 94)).alloc (.cells #[.slice none 0 0] 45)) bp B ts 0 (h.below (new2 _ _ _)) [91])
  clear h hQ
  go_enter Tryz.func132, Tryz.ntmps132
  go_wp2_with fail
  refine (HH.out).mono ?_
  rintro e w1 h1
  rcases hq : hasP [91] ts with g | ⟨b, r1⟩
  · exact (hasP_bad hq).elim
  · obtain ⟨v1, rfl, tn, rfl, kn⟩ := h1.good_ hq
    obtain ⟨tm, hs1, hbx1, hlb1⟩ := after2 tn
    have HT1 := hid tm
    have HK1 := hid kn
    have hb1 := hbx1 (by omega)
    have hc1 := cells1 hb1
    have HI1 : Hid (VarI w.heap.size (w.heap.size + 1) (w.heap.size + 2) bp w1 []) := hid ⟨hb1, _, hlb1 (by omega), RowG.nil _ _ _ _ _ _⟩
    have HQ1 := hid hq
    clear h1 tn tm kn hbx1 hlb1 hq
    cases b
    · have HQ2 : Hid (Pr.good [] r1 = Q) := hid ((thenP_good HQ1.out).symm.trans HQ.out)
      go_wp2_with fail
      go_ret
      exact ReadsP.done HQ2.out.symm HT1.out ⟨[], SlG.nil _ _ _, .nil⟩ HK1.out
    · have HQ2 : Hid (thenP (sepP varP) (fun l => thenP (wantP [93]) fun _ => retP l) r1 = Q) := hid ((thenP_good HQ1.out).symm.trans HQ.out)
      have hmf : ∀ (fn : Fn) (first cap : Array Value) (w : World), (Instr.makeFunc fn first cap).run Tryz.prog w = .ok (.func fn first cap) w := fun _ _ _ _ => rfl
      have HSV := hid (several_any varP Sf.var 166 #[.pointer (some ⟨w.heap.size, 0, none⟩), .pointer (some ⟨w.heap.size + 1, 0, none⟩)] (VarI w.heap.size (w.heap.size + 1) (w.heap.size + 2) bp) (fun k => k = bp ∨ k = w.heap.size + 1 ∨ w.heap.size + 2 ≤ k) 0 w1 bp B r1 (.inl rfl)
        (fun a b l tn h => h.turn tn (by omega) (by omega) (fun j hj _ e => by omega)) (fun g h => .inr (.inr (by omega)))
        (fun w1 r l hl hw hi hk => pvars1_any w1 bp B _ _ _ r l hl hk hi (by omega) (by omega) (by omega) (by omega) (by omega) (by omega)) (fun _ => by kernel_rfl) HK1.out HI1.out)
      go_wp2_with fail
      refine (HSV.out).mono ?_
      rintro e w2 h2
      rcases hq : sepP varP r1 with g | ⟨l, r2⟩
      · obtain ⟨rfl, tn, bn⟩ := h2.bad_ hq
        have HB := hid (BadP.mk2 (HT1.out.trans tn (fun i hi e => by rcases e with e | e | e <;> omega)) bn)
        have HQB := hid (HQ2.out.symm.trans (thenP_bad hq))
        clear h2 tn bn hq
        go_wp2_with fail
        exact ⟨rfl, ReadsP.fail HQB.out HB.out⟩
      · obtain ⟨rfl, tn, hI2, kn⟩ := h2.good_ hq
        have hs2 := tn.size
        have HT2 := hid (HT1.out.trans tn (fun i hi e => by rcases e with e | e | e <;> omega))
        have HI2 := hid hI2
        have hc2 := cells1 hI2.1
        have HQ3 : Hid (thenP (wantP [93]) (fun _ => retP l) r2 = Q) := hid ((thenP_good hq).symm.trans HQ2.out)
        have HN := hid (want_lit w2 bp B r2 0 kn [93] 9 w2.heap.size)
        clear h2 tn hI2 kn hq hc1 hb1
        go_wp2_with fail
        refine (HN.out).mono ?_
        rintro e w3 h3
        rcases hq : wantP [93] r2 with g | ⟨u, r3⟩
        · obtain ⟨rfl, tn, bn⟩ := h3.bad_ hq
          have HB := hid (BadP.mk2 (turn_bp HT2.out tn) bn)
          have HQB := hid (HQ3.out.symm.trans (thenP_bad hq))
          clear h3 tn bn hq
          go_wp2_with fail
          exact ⟨rfl, ReadsP.fail HQB.out HB.out⟩
        · obtain ⟨v3, rfl, tn, -, kn⟩ := h3.good_ hq
          have HT3 := hid (turn_bp HT2.out tn)
          have HK3 := hid kn
          have HQ4 : Hid (Pr.good l r3 = Q) := hid ((thenP_good hq).symm.trans HQ3.out)
          obtain ⟨_, v, hl3, hr3⟩ := HI2.out.turn tn (by omega) (by omega) (fun j hj _ e => by omega)
          have HR3 := hid hr3
          have hc3 := cells1 hl3
          clear h3 tn kn hq hr3 hl3
          go_wp2_with fail
          go_ret
          obtain ⟨xs, q1, q2⟩ := HR3.out.sl foot_va
          exact ReadsP.done HQ4.out.symm HT3.out ⟨xs, q1.mono (fun g _ h => by rcases h with h | h <;> omega), row_mono foot_va (fun g _ h => by rcases h with h | h <;> omega) q2⟩ HK3.out
end Go.Proofs.YtmbppnbekkbibaaGreatDoor
end
