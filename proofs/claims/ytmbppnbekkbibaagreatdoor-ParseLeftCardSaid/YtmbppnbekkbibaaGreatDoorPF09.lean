/- FU, FV, FW, HC -/
import Derived.Test.YtmbppnbekkbibaaGreatDoorPF08
set_option linter.unusedSimpArgs false
set_option linter.unusedVariables false
section
/- The contract of post. -/
set_option linter.unusedVariables false
namespace Go.Proofs.YtmbppnbekkbibaaGreatDoor
open Go.RowKit

def AtomC (d : Int) (p : Ps NoD) : Prop := ∀ (w : World) (bp B : Nat) (ts : List TokD), TkAt w bp B ts d →
  Calls Tryz.prog 188 #[.pointer (some ⟨bp, 0, none⟩)] w (ReadsP (PNo w.heap.size) bp B d w (p ts))
/-- What post keeps in its loop. -/
structure PostI (w : World) (bp B ab : Nat) (d : Int) (wr : World) (a : NoD) (r : List TokD) : Prop where
  turn : Turn (fun k => k = bp) w wr
  tk : TkAt wr bp B r d
  res : wr.heap[w.heap.size]? = some (.cells #[.int .i64 0, .string ⟨#[]⟩, .int .i64 0, .int .i64 0, .int .i64 0, .slice none 0 0, .slice none 0 0, .slice none 0 0] 49 (0, 0))
  no : ∃ z : List Value, wr.heap[ab]? = some (.cells z.toArray 49 (0, 0)) ∧ NoG wr (fun j => w.heap.size ≤ j ∧ j ≠ w.heap.size ∧ j ≠ ab) z a
set_option maxRecDepth 100000 in
set_option maxHeartbeats 8000000 in
theorem post_any (d : Int) (typ : Ps TyD) (expr : Ps NoD) (hsf : Sf expr) (HEX : ExprC d expr) (HA : AtomC d (atomP typ expr)) : PostC d (postP typ expr) := by
  intro w bp B ts h
  have hlt := h.lt
  have hB := h.1
  obtain ⟨Q, hQ⟩ : ∃ Q, postP typ expr ts = Q := ⟨_, rfl⟩
  rw [hQ]
  have HQ : Hid (thenP (atomP typ expr) (fun a ts => postF expr ts.length a ts) ts = Q) := hid hQ
  have HC := hid (HA (w.alloc (.cells #[.int .i64 0, .string ⟨#[]⟩, .int .i64 0, .int .i64 0, .int .i64 0, .slice none 0 0, .slice none 0 0, .slice none 0 0] 49)) bp B ts (h.below (new1 _ _)))
  clear h hQ
  go_enter Tryz.func170, Tryz.ntmps170
  go_wp2_with fail
  refine (HC.out).mono ?_
  rintro e w1 h1
  rcases hq : atomP typ expr ts with g | ⟨a, r1⟩
  · obtain ⟨rfl, tn, bn⟩ := h1.bad_ hq
    have tn := (after1 tn).1
    have HB := hid (BadP.mk2 tn bn)
    have HQB := hid (HQ.out.symm.trans (thenP_bad hq))
    clear h1 tn bn hq
    go_wp2_with fail
    exact ⟨rfl, ReadsP.fail HQB.out HB.out⟩
  · obtain ⟨v1, rfl, tn, ⟨z1, rfl, hz⟩, kn⟩ := h1.good_ hq
    obtain ⟨k1, s1, n1, l1, o1, A11, n11, c11, A21, n21, c21, A31, n31, c31, rfl⟩ := hz.shape'
    obtain ⟨tm, hs1, hrs⟩ := after1 tn
    have HZ1 := hid (hz.iv.mono (G := Iv (w.heap.size + 1) w1.heap.size) (fun g _ h => ⟨by have h := h.1; simp at h; exact h, h.2⟩))
    have HQ1 : Hid (postF expr r1.length a r1 = Q) := hid ((thenP_good (f := fun a ts => postF expr ts.length a ts) hq).symm.trans HQ.out)
    have hab : w.heap.size < w1.heap.size := by omega
    have HPI : Hid (PostI w bp B w1.heap.size d (w1.alloc (.cells #[.int .i64 k1, sv s1, .int .i64 n1, .int .i64 l1, .int .i64 o1, .slice A11 n11 c11, .slice A21 n21 c21, .slice A31 n31 c31] 49)) a r1) := hid ⟨turn_bp tm (Turn.alloc _ _ _), kn.below (new1 _ _), keep_alloc (hrs (by omega)), [.int .i64 k1, sv s1, .int .i64 n1, .int .i64 l1, .int .i64 o1, .slice A11 n11 c11, .slice A21 n21 c21, .slice A31 n31 c31], at1 _ _, (HZ1.out.turn (Turn.alloc (fun _ => False) w1 (.cells #[.int .i64 k1, sv s1, .int .i64 n1, .int .i64 l1, .int .i64 o1, .slice A11 n11 c11, .slice A21 n21 c21, .slice A31 n31 c31] 49)) (fun _ _ _ => id)).mono (fun g hg h => ⟨by have := h.1; omega, by have := h.1; omega, by have := h.2; omega⟩)⟩
    clear h1 tn tm hz kn hrs hq
    go_wp2_with fail
    go_loopw [5] (fun _ wr => ∃ (f : Nat) (a : NoD) (r : List TokD), postF expr f a r = Q ∧ r.length ≤ f ∧ PostI w bp B w1.heap.size d wr a r) (fun _ wr => leftOf wr bp)
    case atStart => exact ⟨_, a, r1, HQ1.out, Nat.le_refl _, HPI.out⟩
    case round =>
      obtain ⟨f, a, r, hinv, hf, hri⟩ := hrel
      have hwf := hri.tk.wf
      have hpos := hwf.pos
      obtain ⟨f, rfl⟩ : ∃ f', f = f' + 1 := ⟨f - 1, by omega⟩
      obtain ⟨t, ht⟩ : ∃ t, nextP r = t := ⟨_, rfl⟩
      have HL : Hid (thenP (takeP [[40], [46]]) (fun i => match i with | none => retP a | some 0 => thenP (kidsP expr [[]] [a]) fun k => thenP (wantP [41]) fun _ => postF expr f (nodeD 7 [] 0 t [] [] k) | some _ => thenP nameP fun s => postF expr f (nodeD 9 s 0 t [] [] [a])) r = Q) := hid (by subst ht; exact hinv)
      have HLEN := hid hri.tk.left
      have HF := hid hf
      have HRI0 := hid hri
      have HWF := hid hwf
      have hsr := hri.turn.size
      obtain ⟨z4, hz0, hn0⟩ := hri.no
      obtain ⟨k4, s4, n4, l4, o4, A14, n14, c14, A24, n24, c24, A34, n34, c34, rfl⟩ := hn0.shape'
      have HZB0 := hid hz0
      have HN0 := hid (hn0.mono (G := fun j => (w.heap.size ≤ j ∧ j ≠ w.heap.size ∧ j ≠ w1.heap.size) ∧ j < wr.heap.size) (fun g hg h => ⟨h, hg⟩))
      have hsr2 := block_lt hz0
      have hsr3 := block_lt hri.res
      have HH := hid (here_any d wr bp B r hri.tk 7)
      rw [ht] at HH
      clear hinv hf hri hwf ht hz0 hn0
      go_wp2_with fail
      refine (HH.out).mono ?_
      rintro e w2 ⟨rfl, hb2⟩
      have hs2 := hb2.size
      have t2 := Turn.of_below (F := fun k => k = bp) hb2
      have HK2 := hid (HRI0.out.tk.below hb2)
      have hz2 := block_turn HZB0.out t2 (by omega)
      have HZB2 := hid hz2
      have HRS2 := hid (block_turn HRI0.out.res t2 (by omega))
      have HN2 := hid (HN0.out.turn t2 (fun g _ h e => by have := h.1.1; omega))
      have HT2 := hid (turn_bp HRI0.out.turn t2)
      have hl12 := block_lt hz2
      obtain ⟨e0, e1, e2, e3, e4, e5, e6, e7, ez⟩ := cells8 hz2
      have HTK := hid (take_lit ((w2.alloc (.cells #[.int .i64 7, .string ⟨#[]⟩, .int .i64 0, .int .i64 (t.line : Nat), .int .i64 (t.col : Nat), .slice none 0 0, .slice none 0 0, (.slice (some ⟨w2.heap.size + 1, 0, none⟩) 1 1)] 49)).alloc (.cells #[.int .i64 k4, sv s4, .int .i64 n4, .int .i64 l4, .int .i64 o4, .slice A14 n14 c14, .slice A24 n24 c24, .slice A34 n34 c34] 49)) bp B r d (HK2.out.below (new2 _ _ _)) [[40], [46]] #[.string ⟨#[40]⟩, .string ⟨#[46]⟩] 9 2 (w2.heap.size + 1 + 1))
      clear hb2 t2 hz2
      go_wp2_with fail
      refine (HTK.out).mono ?_
      rintro e w3 h3
      rcases hq : takeP [[40], [46]] r with g | ⟨o, r3⟩
      · exact (takeP_good hq).elim
      · obtain ⟨v3, rfl, tn, rfl, kn⟩ := h3.good_ hq
        obtain ⟨tm, hs3, hnb, hpb⟩ := after2 tn
        have HT3 := hid (turn_bp HT2.out tm)
        have HK3 := hid kn
        have HNB3 := hid (hnb (by omega))
        have HPB3 := hid (hpb (by omega))
        have HZB3 := hid (block_turn HZB2.out tm (by omega))
        have HRS3 := hid (block_turn HRS2.out tm (by omega))
        have HN3 := hid (HN2.out.turn tm (fun g _ h e => by have := h.1.1; omega))
        have HQ3 := hid hq
        clear h3 tn tm kn hnb hpb hq e0 e1 e2 e3 e4 e5 e6 e7 ez
        rcases o with _ | i
        · have HQ4 : Hid (Pr.good a r3 = Q) := hid ((thenP_good HQ3.out).symm.trans HL.out)
          obtain ⟨e0, e1, e2, e3, e4, e5, e6, e7, ez⟩ := cells8 HZB3.out
          obtain ⟨c0, c1, c2, c3, c4, c5, c6, c7, cz⟩ := cells8 HRS3.out
          go_wp2_with fail
          refine bodyPost_ret (res_cell rfl rfl (put8_block HRS3.out _ _ _ _ _ _ _ _) Tryz.underlying49 rfl (by kernel_rfl)) rfl ?_
          exact ReadsP.done HQ4.out.symm (new_turn8 HT3.out (by omega)) ⟨_, rfl, (HN3.out.turn (put8_turn _ _ _ _ _ _ _ _ _ _) (fun g _ h e => by have := h.1.2.1; omega)).mono (fun g _ h => h.1.1)⟩ (HK3.out.put8_ (by omega))
        · have hi := takeP_lt HQ3.out
          simp only [List.length_cons, List.length_nil] at hi
          have HLESS := hid (takeP_less HQ3.out HWF.out.pos)
          obtain rfl | rfl : i = 0 ∨ i = 1 := by omega
          · have HQ4 : Hid (thenP (kidsP expr [[]] [a]) (fun k => thenP (wantP [41]) fun _ => postF expr f (nodeD 7 [] 0 t [] [] k)) r3 = Q) := hid ((thenP_good HQ3.out).symm.trans HL.out)
            have HROW3 := hid (show Nos (w2.heap.size + 1) (fun j => w.heap.size < j ∧ j ≠ w1.heap.size ∧ j ≠ w2.heap.size) w3 (.slice (some ⟨w2.heap.size + 1, 0, none⟩) 1 1) [a] from ⟨_, own_blk HPB3.out (k := 8) rfl, trow1 rfl (HN3.out.mono (fun g _ h => ⟨fun e => by injection e with e; have := h.2; simp at e; omega, by have := h.1; omega, by have := h.1.2.2; omega, by have := h.2; omega⟩))⟩)
            have HKC := hid (kids_any d expr HEX (w3.alloc (.cells #[.string ⟨#[]⟩] 9)) bp B w2.heap.size (w2.heap.size + 1) (fun j => w.heap.size < j ∧ j ≠ w1.heap.size ∧ j ≠ w2.heap.size) r3 (HK3.out.below (new1 _ _)) (.int .i64 7) (.string ⟨#[]⟩) (.int .i64 0) (.int .i64 (t.line : Nat)) (.int .i64 (t.col : Nat)) (.slice none 0 0) (.slice none 0 0) (.slice (some ⟨w2.heap.size + 1, 0, none⟩) 1 1) [a] (keep_alloc HNB3.out) (HROW3.out.turn foot_no (Turn.alloc (fun _ => False) w3 (.cells #[.string ⟨#[]⟩] 9)) (fun _ _ => id) (fun _ _ _ => id)) (.slice (some ⟨w3.heap.size, 0, none⟩) 1 1) [[]] ((slG_new w3 #[.string ⟨#[]⟩] 9 1 1 rfl (by decide)).mono (fun g _ h => ⟨by omega, by omega, fun e => by injection e with e; simp at e; omega⟩)) (by simp) (by simp) (by omega) (by omega) (by simp; omega) (by omega) (by omega) (fun j hj => by simp at hj; omega))
            go_wp2_with fail
            refine (HKC.out).mono ?_
            rintro e w5 h5
            rcases hq : kidsP expr [[]] [a] r3 with g | ⟨ks, r5⟩
            · obtain ⟨rfl, tn, bn⟩ := h5.bad_ hq
              have hpo : ∀ j, Value.ownBlock (.slice (some ⟨w2.heap.size + 1, 0, none⟩) 1 1) = some j → j = w2.heap.size + 1 := fun j e => by injection e with e; exact e.symm
              have tn := (after1 tn).1
              have HB := hid (BadP.mk2 (HT3.out.trans tn (fun i hi e => by rcases e with e | e | e; exact e; omega; (have := hpo _ e; omega))) bn)
              have HQB := hid (HQ4.out.symm.trans (thenP_bad hq))
              clear h5 tn bn hq
              go_wp2_with fail
              exact ⟨rfl, ReadsP.fail HQB.out HB.out⟩
            · obtain ⟨rfl, tn, ⟨v5, hb5, hr5⟩, kn⟩ := h5.good_ hq
              have hpo : ∀ j, Value.ownBlock (.slice (some ⟨w2.heap.size + 1, 0, none⟩) 1 1) = some j → j = w2.heap.size + 1 := fun j e => by injection e with e; exact e.symm
              have tm := (after1 tn).1
              have hs5 := tm.size
              have HT5 := hid (HT3.out.trans tm (fun i hi e => by rcases e with e | e | e; exact e; omega; (have := hpo _ e; omega)))
              have HK5 := hid kn
              have HNB5 := hid hb5
              have HR5 := hid hr5
              have HZB5 := hid (block_turn HZB3.out tm (fun e => by rcases e with e | e | e; omega; omega; (have := hpo _ e; omega)))
              have HRS5 := hid (block_turn HRS3.out tm (fun e => by rcases e with e | e | e; omega; omega; (have := hpo _ e; omega)))
              have HLE5 := hid ((Sf.kids hsf [[]] [a]).good HK3.out.wf hq).2.length_le
              have HQ5 : Hid (thenP (wantP [41]) (fun _ => postF expr f (nodeD 7 [] 0 t [] [] ks)) r5 = Q) := hid ((thenP_good hq).symm.trans HQ4.out)
              have HN := hid (want_lit w5 bp B r5 d kn [41] 9 w5.heap.size)
              obtain ⟨A5, c5, hv5, _, _⟩ := hr5.shape
              subst hv5
              clear h5 tn tm kn hq hb5 hr5 hpo
              go_wp2_with fail
              refine (HN.out).mono ?_
              rintro e w6 h6
              rcases hq : wantP [41] r5 with g | ⟨u, r6⟩
              · obtain ⟨rfl, tn, bn⟩ := h6.bad_ hq
                have HB := hid (BadP.mk2 (turn_bp HT5.out tn) bn)
                have HQB := hid (HQ5.out.symm.trans (thenP_bad hq))
                clear h6 tn bn hq
                go_wp2_with fail
                exact ⟨rfl, ReadsP.fail HQB.out HB.out⟩
              · obtain ⟨v6, rfl, tn, -, kn⟩ := h6.good_ hq
                have HT6 := hid (turn_bp HT5.out tn)
                have HK6 := hid kn
                have hnb6 := block_turn HNB5.out tn (by omega)
                have HNB6 := hid hnb6
                have HR6 := hid (HR5.out.turn foot_no tn (fun g hg e => by have := (HR5.out.lt g hg).1; omega) (fun g _ hg e => by have := hg.1; omega))
                have hzb6 := block_turn HZB5.out tn (by omega)
                have HZBF := hid hzb6
                have HRS6 := hid (block_turn HRS5.out tn (by omega))
                have HLE6 := hid ((Sf.want [41]).good HK5.out.wf hq).2.length_le
                have HQF : Hid (postF expr f (nodeD 7 [] 0 t [] [] ks) r6 = Q) := hid ((thenP_good hq).symm.trans HQ5.out)
                obtain ⟨f0, f1, f2, f3, f4, f5, f6, f7, fz⟩ := cells8 hnb6
                obtain ⟨e0, e1, e2, e3, e4, e5, e6, e7, ez⟩ := cells8 hzb6
                clear h6 tn kn hq hnb6 hzb6
                go_wp2_with fail
                obtain ⟨xs, q1, q2⟩ := HR6.out.sl foot_no
                have tF := put8_turn w6 w1.heap.size (.int .i64 7) (.string ⟨#[]⟩) (.int .i64 0) (.int .i64 (t.line : Nat)) (.int .i64 (t.col : Nat)) (.slice none 0 0) (.slice none 0 0) (.slice A5 ks.length c5)
                have hwx := HT6.out.size
                have hrF : PostI w bp B w1.heap.size d (put8 w6 w1.heap.size (.int .i64 7) (.string ⟨#[]⟩) (.int .i64 0) (.int .i64 (t.line : Nat)) (.int .i64 (t.col : Nat)) (.slice none 0 0) (.slice none 0 0) (.slice A5 ks.length c5)) (nodeD 7 [] 0 t [] [] ks) r6 :=
                  ⟨new_turn8 HT6.out (by omega), HK6.out.put8_ (by omega), block_turn HRS6.out tF (by omega), _, put8_block HZBF.out _ _ _ _ _ _ _ _, .mk (SlG.nil _ _ _) .nil (SlG.nil _ _ _) ((q1.turn tF (fun g _ h e => by rcases h with h | h; omega; (have := h.2.1; omega))).mono (fun g _ h => by rcases h with h | h; omega; (have := h.1; have := h.2.1; omega))) (nos_row (row_mono foot_no (fun g _ h => by rcases h with h | h; omega; (have := h.1; have := h.2.1; omega)) (row_turn foot_no tF (fun g _ h e => by rcases h with h | h; omega; (have := h.2.1; omega)) q2)))⟩
                go_roundw
                case rel => exact ⟨f, _, r6, HQF.out, by have := HLE5.out; have := HLE6.out; have := HLESS.out; have := HF.out; omega, hrF⟩
                case measure => rw [hrF.tk.left, HLEN.out]; have := HLE5.out; have := HLE6.out; have := HLESS.out; omega
          · have HQ4 : Hid (thenP nameP (fun s => postF expr f (nodeD 9 s 0 t [] [] [a])) r3 = Q) := hid ((thenP_good HQ3.out).symm.trans HL.out)
            have HN := hid (pname_any w3 bp B r3 d HK3.out)
            go_wp2_with fail
            refine (HN.out).mono ?_
            rintro e w5 h5
            rcases hq : nameP r3 with g | ⟨s, r5⟩
            · obtain ⟨rfl, tn, bn⟩ := h5.bad_ hq
              have HB := hid (BadP.mk2 (turn_bp HT3.out tn) bn)
              have HQB := hid (HQ4.out.symm.trans (thenP_bad hq))
              clear h5 tn bn hq
              go_wp2_with fail
              exact ⟨rfl, ReadsP.fail HQB.out HB.out⟩
            · obtain ⟨v5, rfl, tn, rfl, kn⟩ := h5.good_ hq
              have hs5 := tn.size
              have HT5 := hid (turn_bp HT3.out tn)
              have hnb5 := block_turn HNB3.out tn (by omega)
              have hzb5 := block_turn HZB3.out tn (by omega)
              have hpb5 := block_turn HPB3.out tn (by omega)
              have HLE5 := hid (Sf.name.good HK3.out.wf hq).2.length_le
              have HQF : Hid (postF expr f (nodeD 9 s 0 t [] [] [a]) r5 = Q) := hid ((thenP_good hq).symm.trans HQ4.out)
              have HN5 := hid (HN3.out.turn tn (fun g _ h e => by have := h.1.1; omega))
              obtain ⟨f0, f1, f2, f3, f4, f5, f6, f7, fz⟩ := cells8 hnb5
              obtain ⟨e0, e1, e2, e3, e4, e5, e6, e7, ez⟩ := cells8 hzb5
              have t6 := (turn_set w5 w2.heap.size 0 (.int .i64 9)).trans (turn_set _ w2.heap.size 1 (sv s)) (fun _ _ h => h)
              have HK6 := hid (kn.turn t6 (by omega) (fun k hk e => by have := HK3.out.1; omega))
              have HT6 := hid (HT5.out.trans t6 (fun i hi e => by omega))
              have HZBF := hid (block_turn hzb5 t6 (by omega))
              have HP6 := hid (slG_blk (block_turn hpb5 t6 (by omega)) 8 1 rfl (by omega))
              have HRS6 := hid (block_turn (block_turn HRS3.out tn (by omega)) t6 (by omega))
              have HN6 := hid (HN5.out.turn t6 (fun g _ h e => by have := h.2; omega))
              have hnz1 : ¬ w2.heap.size = w1.heap.size := by omega
              have hnz2 : ¬ w1.heap.size = w2.heap.size := by omega
              clear h5 tn kn hq hnb5 hzb5 hpb5 t6
              go_wp2_with fail
              have tF := put8_turn ((w5.setCell ⟨w2.heap.size, 0, none⟩ (.int .i64 9)).setCell ⟨w2.heap.size, 1, none⟩ (sv s)) w1.heap.size (.int .i64 9) (sv s) (.int .i64 0) (.int .i64 (t.line : Nat)) (.int .i64 (t.col : Nat)) (.slice none 0 0) (.slice none 0 0) (.slice (some ⟨w2.heap.size + 1, 0, none⟩) 1 1)
              have hwx := HT6.out.size
              have hrF : PostI w bp B w1.heap.size d (put8 ((w5.setCell ⟨w2.heap.size, 0, none⟩ (.int .i64 9)).setCell ⟨w2.heap.size, 1, none⟩ (sv s)) w1.heap.size (.int .i64 9) (sv s) (.int .i64 0) (.int .i64 (t.line : Nat)) (.int .i64 (t.col : Nat)) (.slice none 0 0) (.slice none 0 0) (.slice (some ⟨w2.heap.size + 1, 0, none⟩) 1 1)) (nodeD 9 s 0 t [] [] [a]) r5 :=
                ⟨new_turn8 HT6.out (by omega), HK6.out.put8_ (by omega), block_turn HRS6.out tF (by omega), _, put8_block HZBF.out _ _ _ _ _ _ _ _, .mk (SlG.nil _ _ _) .nil (SlG.nil _ _ _) ((HP6.out.turn tF (fun g _ h e => by omega)).mono (fun g _ h => by omega)) (.cons ((HN6.out.turn tF (fun g _ h e => by have := h.1.2.2; omega)).mono (fun g _ h => h.1)) .nil)⟩
              go_roundw
              case rel => exact ⟨f, _, r5, HQF.out, by have := HLE5.out; have := HLESS.out; have := HF.out; omega, hrF⟩
              case measure => rw [hrF.tk.left, HLEN.out]; have := HLE5.out; have := HLESS.out; omega
end Go.Proofs.YtmbppnbekkbibaaGreatDoor
end
section
/- The contract of named, and of its function that reads a type. -/
set_option linter.unusedVariables false
namespace Go.Proofs.YtmbppnbekkbibaaGreatDoor
open Go.RowKit

/-- A node while its types are read. -/
def NamI (pb nb base bp : Nat) (s : Bt) (t : TokD) (w : World) (l : List TyD) : Prop :=
  w.heap[pb]? = some (.cells #[.pointer (some ⟨bp, 0, none⟩)] 94 (0, 0)) ∧ ∃ v, w.heap[nb]? = some (.cells #[.int .i64 19, sv s, .int .i64 0, .int .i64 (t.line : Nat), .int .i64 (t.col : Nat), v, .slice none 0 0, .slice none 0 0] 49 (0, 0)) ∧ Tys base w v l
theorem NamI.turn {pb nb base bp : Nat} {s : Bt} {t : TokD} {w w' : World} {l : List TyD} (h : NamI pb nb base bp s t w l) (tn : Turn (fun k => k = bp) w w') (h1 : bp < pb) (h2 : bp < nb) (h3 : bp < base) : NamI pb nb base bp s t w' l := by
  obtain ⟨hb, v, hn, hr⟩ := h
  exact ⟨block_turn hb tn (by omega), v, block_turn hn tn (by omega), hr.turn foot_ty tn (fun g hg e => by have := (hr.lt g hg).1; omega) (fun g _ hg e => by omega)⟩
set_option maxRecDepth 100000 in
set_option maxHeartbeats 8000000 in
theorem named1_any (d : Int) (typ : Ps TyD) (HTY : TypC d typ) (w : World) (bp B pb nb base : Nat) (s : Bt) (t : TokD) (ts : List TokD) (l : List TyD) (hl : l.length ≤ 8193) (h : TkAt w bp B ts d) (hI : NamI pb nb base bp s t w l) (p1 : bp < pb) (p2 : bp < nb) (p3 : pb < base) (p4 : nb < base) (p5 : pb ≠ nb) (p6 : base ≤ w.heap.size) :
    Calls Tryz.prog 218 #[.pointer (some ⟨nb, 0, none⟩), .pointer (some ⟨pb, 0, none⟩)] w (AddsP (NamI pb nb base bp s t) (fun k => k = bp ∨ k = nb ∨ base ≤ k) bp B d w (moreP typ l ts)) := by
  obtain ⟨hbox, vk, hblk, hrow⟩ := hI
  obtain ⟨Ak, ck, hvk, hck, hmk⟩ := hrow.shape
  subst hvk
  have hbx := cells1 hbox
  obtain ⟨Q, hQ⟩ : ∃ Q, moreP typ l ts = Q := ⟨_, rfl⟩
  rw [hQ]
  have HQ : Hid (thenP typ (fun x => retP (l ++ [x])) ts = Q) := hid hQ
  have HK := hid h
  have HROW := hid hrow
  have HBLK := hid hblk
  have HBOX := hid hbox
  have e5 : w.cell? ⟨nb, 5, none⟩ = some (.slice Ak l.length ck) := (cell_of_row _ _ _ _ _ _ hblk).trans rfl
  have PN := hid (fun (w' : World) (h : Turn (fun j => j = bp ∨ base ≤ j) w w') => tcell e5 h (by omega))
  have PB := hid (fun (w' : World) (h : Turn (fun j => j = bp ∨ base ≤ j) w w') => tcell hbx h (by omega))
  clear h hQ hrow hblk hbox hbx e5
  go_enter Tryz.func218, Tryz.ntmps218
  have HD0 : Hid (Turn (fun j => j = bp ∨ base ≤ j) w w.drew) := hid ⟨rfl, rfl, rfl, Nat.le_refl _, fun _ _ _ => rfl⟩
  have HDB : Hid (Turn (fun j => j = bp) w w.drew) := hid ⟨rfl, rfl, rfl, Nat.le_refl _, fun _ _ _ => rfl⟩
  go_wp2_with fail
  refine region_x (S := fun w' => Turn (fun j => j = bp ∨ base ≤ j) w w') (x := 10) (by kernel_rfl) ?_
  try simp only [Act.put, List.getElem_toArray, List.getElem_cons_zero, List.getElem_cons_succ, List.setIfInBounds_toArray, List.set_cons_zero, List.set_cons_succ]
  refine tx 0 (.pointer (some ⟨nb, 5, none⟩)) HD0.out ?_
  refine txf 1 (.slice Ak l.length ck) PN.out HD0.out ?_
  refine txf 2 (.pointer (some ⟨bp, 0, none⟩)) PB.out HD0.out ?_
  refine tx 4 (.int .i64 (l.length : Int)) HD0.out ?_
  refine anyX_ready (rs := [3, 5]) (by kernel_rfl) (by simp) ?_
  refine ReadyX.cons rfl (fun K hK => ?_) (ReadyX.cons rfl (fun K hK => ?_) ReadyX.nil)
  · have HW9 := HDB
    have HTC := hid (HTY w.drew bp B ts HK.out)
    go_simp
    refine (HTC.out).mono ?_
    rintro e w10 h10
    rcases hq : typ ts with g | ⟨x, r10⟩
    · obtain ⟨rfl, tn, bn⟩ := h10.bad_ hq
      have tn := HW9.out.trans tn (fun _ _ h => h)
      have HQB := hid (HQ.out.symm.trans (thenP_bad hq))
      exact ⟨rfl, AddsP.fail HQB.out (tn.mono fun _ _ h => .inl h) bn⟩
    · obtain ⟨v10, rfl, tn, ⟨z, rfl, hz⟩, kn⟩ := h10.good_ hq
      obtain ⟨kz, sz, Az1, nz1, cz1, Az2, nz2, cz2, rfl⟩ := hz.shape'
      have HT10 := hid (HW9.out.trans tn (fun _ _ h => h))
      have HS10 := hid (HT10.out.mono (G := fun j => j = bp ∨ base ≤ j) (fun _ _ h => .inl h))
      have HK10 := hid kn
      have HQR := hid hq
      have HZ := hid (foot_ty.mono hz (G := fun j => w.heap.size ≤ j) (fun _ _ h => Nat.le_trans HW9.out.size h))
      clear h10 tn kn hq hz
      refine hK.out _ _ HS10.out ?_
      clear hK K
      try simp only [Act.put, List.getElem_toArray, List.getElem_cons_zero, List.getElem_cons_succ, List.setIfInBounds_toArray, List.set_cons_zero, List.set_cons_succ]
      refine anyX_ready (rs := [5]) (by kernel_rfl) (by simp) ?_
      refine ReadyX.cons rfl (fun K hK => ?_) (ReadyX.nil)
      go_simp
      have HTQ := hid (HT10.out.trans (Turn.alloc (fun j => j = bp) w10 (.cells #[.int .i64 0, .string ⟨#[]⟩, .slice none 0 0, .slice none 0 0] 63)) (fun _ _ h => h))
      have HSQ := hid (HTQ.out.mono (G := fun j => j = bp ∨ base ≤ j) (fun _ _ h => .inl h))
      have HZQ := hid (foot_ty.turn HZ.out (Turn.alloc (fun _ => False) w10 (.cells #[.int .i64 0, .string ⟨#[]⟩, .slice none 0 0, .slice none 0 0] 63)) (fun _ _ _ => id))
      have HKQ := hid (HK10.out.below (new1 w10 (.cells #[.int .i64 0, .string ⟨#[]⟩, .slice none 0 0, .slice none 0 0] 63)))
      have HSL := hid (sl_new w10 #[.int .i64 0, .string ⟨#[]⟩, .slice none 0 0, .slice none 0 0] 63 4 1 rfl (by decide))
      refine hK.out _ _ HSQ.out ?_
      clear hK K
      try simp only [Act.put, List.getElem_toArray, List.getElem_cons_zero, List.getElem_cons_succ, List.setIfInBounds_toArray, List.set_cons_zero, List.set_cons_succ]
      refine anyX_ready (rs := [6]) (by kernel_rfl) (by simp) ?_
      refine ReadyX.cons rfl (fun K hK => ?_) (ReadyX.nil)
      obtain ⟨ys, hy, hr⟩ := HROW.out
      have hyl : ys.length = l.length * 4 := by have := hy.1; simpa using this
      have HROWQ := hid (own_turn hy HTQ.out (fun g hg e => by have := (hy.lt g hg).1; omega))
      refine step_app rfl (.tmp 3) (.tmp 7) _ rfl base el_ty (.slice Ak l.length ck) _ rfl rfl HROWQ.out HSL.out ty0_one (by simp [maxLen]; omega) (by simp; omega) (by have := HTQ.out.size; omega) (fun v7 w7 n7 hown7 hg7 hbk7 => ?_)
      have hn7 : n7 = l.length + 1 := by have := hown7.1; rw [List.length_append, hyl] at this; simp at this; omega
      subst hn7
      obtain ⟨g7, c7, rfl, hgb, hgs, hc7, hm7⟩ := own_form hown7 (by omega)
      have he := fun w8 => inplace foot_ty (by omega) (cb := nb) (ci := 5) hy hr HTQ.out HZQ.out (by rfl) hown7 hg7 hbk7 rfl (by omega) (F := fun j => base ≤ j) (by omega) (by omega) (fun j hj => by omega) (by omega) w8
      simp only [List.length_map] at he
      have HE := hid he
      have HS7 := hid ((HTQ.out.mono (G := fun j => j = bp ∨ base ≤ j) (fun _ _ h => .inl h)).trans (Turn.of_grown hg7 (F := fun j => j = bp ∨ base ≤ j) (fun k e => .inr (hy.lt k e).1)) (fun _ _ h => h))
      have HK7 := hid (HKQ.out.turn (Turn.of_grown hg7 (F := fun j => base ≤ j) (fun k e => (hy.lt k e).1)) (by omega) (fun k hk e => by have := HKQ.out.1; omega))
      have hb7 := block_turn HBLK.out HS7.out (by omega)
      have ec := (cell_of_row _ _ 5 _ _ _ hb7).trans rfl
      have ez := frozen_of_row _ _ 5 _ _ hb7
      have o0 := own_cell hown7 rfl (i := l.length * 4) (u := .int .i64 0) (by rw [List.getElem?_append_right (by omega), hyl, Nat.sub_self]; rfl)
      have o1 := own_cell hown7 rfl (i := l.length * 4 + 1) (u := .string ⟨#[]⟩) (by rw [List.getElem?_append_right (by omega), hyl, Nat.add_sub_cancel_left]; rfl)
      have o2 := own_cell hown7 rfl (i := l.length * 4 + 2) (u := .slice none 0 0) (by rw [List.getElem?_append_right (by omega), hyl, Nat.add_sub_cancel_left]; rfl)
      have o3 := own_cell hown7 rfl (i := l.length * 4 + 3) (u := .slice none 0 0) (by rw [List.getElem?_append_right (by omega), hyl, Nat.add_sub_cancel_left]; rfl)
      obtain ⟨o0, q0⟩ := o0
      obtain ⟨o1, q1⟩ := o1
      obtain ⟨o2, q2⟩ := o2
      obtain ⟨o3, q3⟩ := o3
      have HB7 := hid hb7
      have hne1 : ¬ g7 = nb := by omega
      have hne2 : ¬ nb = g7 := by omega
      clear he hown7 hg7 hbk7 hb7 hy hr
      refine hK.out _ _ HS7.out ?_
      clear hK K
      try simp only [Act.put, List.getElem_toArray, List.getElem_cons_zero, List.getElem_cons_succ, List.setIfInBounds_toArray, List.set_cons_zero, List.set_cons_succ]
      refine tt 7 (.pointer (some ⟨g7, l.length * 4, none⟩)) (fun _ => HS7.out) (hy := by intro w' hSw; go_simp <;> (intro h; omega)) ?_
      refine tt 9 (.pointer (some ⟨nb, 5, none⟩)) (fun _ => HS7.out) ?_
      refine anyX_ready (rs := [8, 10]) (by kernel_rfl) (by simp) ?_
      refine ReadyX.cons rfl (fun K hK => ?_) (ReadyX.past rfl (by kernel_rfl) (fun K hK => ?_) ReadyX.nil)
      · go_simp
        have HSA := hid (HS7.out.trans (putC_turn g7 [.int .i64 kz, sv sz, .slice Az1 nz1 cz1, .slice Az2 nz2 cz2] w7 (l.length * 4)) (fun _ _ h => .inr (by omega)))
        refine hK.out _ _ HSA.out ?_
        clear hK K
        try simp only [Act.put, List.getElem_toArray, List.getElem_cons_zero, List.getElem_cons_succ, List.setIfInBounds_toArray, List.set_cons_zero, List.set_cons_succ]
        refine anyX_ready (rs := [10]) (by kernel_rfl) (by simp) ?_
        refine ReadyX.past rfl (by kernel_rfl) (fun K hK => ?_) (ReadyX.nil)
        go_simp
        refine hK.out _ _ ?_
        clear hK K
        try simp only [Act.put, List.getElem_toArray, List.getElem_cons_zero, List.getElem_cons_succ, List.setIfInBounds_toArray, List.set_cons_zero, List.set_cons_succ]
        refine anyX_done (by kernel_rfl) ?_ _
        obtain ⟨hrow8, t68, t78, hb8, how8⟩ := HE.out ((putC w7 g7 (l.length * 4) [.int .i64 kz, sv sz, .slice Az1 nz1 cz1, .slice Az2 nz2 cz2]).setCell ⟨nb, 5, none⟩ (.slice (some ⟨g7, 0, none⟩) (l.length + 1) c7)) (.inl rfl)
        have hblk8 := hb8 _ _ HB7.out
        have hk8 := HK7.out.turn t78 (fun e => by rcases e with e | e <;> omega) (fun k hk e => by have := HKQ.out.1; rcases e with e | e <;> omega)
        have hlo := HROW.out.lt
        have HQN : Hid (Pr.good (l ++ [x]) r10 = Q) := hid ((thenP_good HQR.out).symm.trans HQ.out)
        go_wp2_with fail
        go_end0
        have tall := (HTQ.out.mono (G := fun k => k = bp ∨ k = nb ∨ base ≤ k) (fun _ _ h => .inl h)).trans t68 (fun i hi e => by rcases e with e | e; exact .inr (.inr (hlo i e).1); exact .inr (.inl e))
        exact AddsP.done HQN.out.symm tall ⟨block_turn HBOX.out tall (by omega), _, hblk8, hrow8⟩ hk8
      · go_simp
        refine hK.out _ _ ?_
        clear hK K
        try simp only [Act.put, List.getElem_toArray, List.getElem_cons_zero, List.getElem_cons_succ, List.setIfInBounds_toArray, List.set_cons_zero, List.set_cons_succ]
        refine anyX_ready (rs := [8]) (by kernel_rfl) (by simp) ?_
        refine ReadyX.past rfl (by kernel_rfl) (fun K hK => ?_) (ReadyX.nil)
        go_simp
        refine hK.out _ _ ?_
        clear hK K
        try simp only [Act.put, List.getElem_toArray, List.getElem_cons_zero, List.getElem_cons_succ, List.setIfInBounds_toArray, List.set_cons_zero, List.set_cons_succ]
        refine anyX_done (by kernel_rfl) ?_ _
        obtain ⟨hrow8, t68, t78, hb8, how8⟩ := HE.out (putC (w7.setCell ⟨nb, 5, none⟩ (.slice (some ⟨g7, 0, none⟩) (l.length + 1) c7)) g7 (l.length * 4) [.int .i64 kz, sv sz, .slice Az1 nz1 cz1, .slice Az2 nz2 cz2]) (.inr rfl)
        have hblk8 := hb8 _ _ HB7.out
        have hk8 := HK7.out.turn t78 (fun e => by rcases e with e | e <;> omega) (fun k hk e => by have := HKQ.out.1; rcases e with e | e <;> omega)
        have hlo := HROW.out.lt
        have HQN : Hid (Pr.good (l ++ [x]) r10 = Q) := hid ((thenP_good HQR.out).symm.trans HQ.out)
        go_wp2_with fail
        go_end0
        have tall := (HTQ.out.mono (G := fun k => k = bp ∨ k = nb ∨ base ≤ k) (fun _ _ h => .inl h)).trans t68 (fun i hi e => by rcases e with e | e; exact .inr (.inr (hlo i e).1); exact .inr (.inl e))
        exact AddsP.done HQN.out.symm tall ⟨block_turn HBOX.out tall (by omega), _, hblk8, hrow8⟩ hk8
  · skip
    go_simp
    have HSD := hid (HD0.out.trans (Turn.alloc (fun j => j = bp ∨ base ≤ j) w.drew (.cells #[.int .i64 0, .string ⟨#[]⟩, .slice none 0 0, .slice none 0 0] 63)) (fun _ _ h => h))
    have HTC := hid (HTY _ bp B ts (TkAt.below (w := w.drew) HK.out (new1 w.drew (.cells #[.int .i64 0, .string ⟨#[]⟩, .slice none 0 0, .slice none 0 0] 63))))
    have HW9 := hid (HDB.out.trans (Turn.alloc (fun j => j = bp) w.drew (.cells #[.int .i64 0, .string ⟨#[]⟩, .slice none 0 0, .slice none 0 0] 63)) (fun _ _ h => h))
    refine hK.out _ _ HSD.out ?_
    clear hK K
    try simp only [Act.put, List.getElem_toArray, List.getElem_cons_zero, List.getElem_cons_succ, List.setIfInBounds_toArray, List.set_cons_zero, List.set_cons_succ]
    refine anyX_ready (rs := [3]) (by kernel_rfl) (by simp) ?_
    refine ReadyX.cons rfl (fun K hK => ?_) (ReadyX.nil)
    go_simp
    refine (HTC.out).mono ?_
    rintro e w10 h10
    rcases hq : typ ts with g | ⟨x, r10⟩
    · obtain ⟨rfl, tn, bn⟩ := h10.bad_ hq
      have tn := HW9.out.trans tn (fun _ _ h => h)
      have HQB := hid (HQ.out.symm.trans (thenP_bad hq))
      exact ⟨rfl, AddsP.fail HQB.out (tn.mono fun _ _ h => .inl h) bn⟩
    · obtain ⟨v10, rfl, tn, ⟨z, rfl, hz⟩, kn⟩ := h10.good_ hq
      obtain ⟨kz, sz, Az1, nz1, cz1, Az2, nz2, cz2, rfl⟩ := hz.shape'
      have HT10 := hid (HW9.out.trans tn (fun _ _ h => h))
      have HS10 := hid (HT10.out.mono (G := fun j => j = bp ∨ base ≤ j) (fun _ _ h => .inl h))
      have HK10 := hid kn
      have HQR := hid hq
      have HZ := hid (foot_ty.mono hz (G := fun j => w.heap.size ≤ j) (fun _ _ h => Nat.le_trans HW9.out.size h))
      have HTQ := HT10
      have HZQ := HZ
      have HKQ := HK10
      have HSL := hid (sl_new_turn w.drew #[.int .i64 0, .string ⟨#[]⟩, .slice none 0 0, .slice none 0 0] 63 4 1 rfl (by decide) tn (by have hs : w.drew.heap.size = w.heap.size := rfl; omega))
      clear h10 tn kn hq hz
      refine hK.out _ _ HS10.out ?_
      clear hK K
      try simp only [Act.put, List.getElem_toArray, List.getElem_cons_zero, List.getElem_cons_succ, List.setIfInBounds_toArray, List.set_cons_zero, List.set_cons_succ]
      refine anyX_ready (rs := [6]) (by kernel_rfl) (by simp) ?_
      refine ReadyX.cons rfl (fun K hK => ?_) (ReadyX.nil)
      obtain ⟨ys, hy, hr⟩ := HROW.out
      have hyl : ys.length = l.length * 4 := by have := hy.1; simpa using this
      have HROWQ := hid (own_turn hy HTQ.out (fun g hg e => by have := (hy.lt g hg).1; omega))
      refine step_app rfl (.tmp 3) (.tmp 7) _ rfl base el_ty (.slice Ak l.length ck) _ rfl rfl HROWQ.out HSL.out ty0_one (by simp [maxLen]; omega) (by simp; omega) (by have := HTQ.out.size; omega) (fun v7 w7 n7 hown7 hg7 hbk7 => ?_)
      have hn7 : n7 = l.length + 1 := by have := hown7.1; rw [List.length_append, hyl] at this; simp at this; omega
      subst hn7
      obtain ⟨g7, c7, rfl, hgb, hgs, hc7, hm7⟩ := own_form hown7 (by omega)
      have he := fun w8 => inplace foot_ty (by omega) (cb := nb) (ci := 5) hy hr HTQ.out HZQ.out (by rfl) hown7 hg7 hbk7 rfl (by omega) (F := fun j => base ≤ j) (by omega) (by omega) (fun j hj => by omega) (by omega) w8
      simp only [List.length_map] at he
      have HE := hid he
      have HS7 := hid ((HTQ.out.mono (G := fun j => j = bp ∨ base ≤ j) (fun _ _ h => .inl h)).trans (Turn.of_grown hg7 (F := fun j => j = bp ∨ base ≤ j) (fun k e => .inr (hy.lt k e).1)) (fun _ _ h => h))
      have HK7 := hid (HKQ.out.turn (Turn.of_grown hg7 (F := fun j => base ≤ j) (fun k e => (hy.lt k e).1)) (by omega) (fun k hk e => by have := HKQ.out.1; omega))
      have hb7 := block_turn HBLK.out HS7.out (by omega)
      have ec := (cell_of_row _ _ 5 _ _ _ hb7).trans rfl
      have ez := frozen_of_row _ _ 5 _ _ hb7
      have o0 := own_cell hown7 rfl (i := l.length * 4) (u := .int .i64 0) (by rw [List.getElem?_append_right (by omega), hyl, Nat.sub_self]; rfl)
      have o1 := own_cell hown7 rfl (i := l.length * 4 + 1) (u := .string ⟨#[]⟩) (by rw [List.getElem?_append_right (by omega), hyl, Nat.add_sub_cancel_left]; rfl)
      have o2 := own_cell hown7 rfl (i := l.length * 4 + 2) (u := .slice none 0 0) (by rw [List.getElem?_append_right (by omega), hyl, Nat.add_sub_cancel_left]; rfl)
      have o3 := own_cell hown7 rfl (i := l.length * 4 + 3) (u := .slice none 0 0) (by rw [List.getElem?_append_right (by omega), hyl, Nat.add_sub_cancel_left]; rfl)
      obtain ⟨o0, q0⟩ := o0
      obtain ⟨o1, q1⟩ := o1
      obtain ⟨o2, q2⟩ := o2
      obtain ⟨o3, q3⟩ := o3
      have HB7 := hid hb7
      have hne1 : ¬ g7 = nb := by omega
      have hne2 : ¬ nb = g7 := by omega
      clear he hown7 hg7 hbk7 hb7 hy hr
      refine hK.out _ _ HS7.out ?_
      clear hK K
      try simp only [Act.put, List.getElem_toArray, List.getElem_cons_zero, List.getElem_cons_succ, List.setIfInBounds_toArray, List.set_cons_zero, List.set_cons_succ]
      refine tt 7 (.pointer (some ⟨g7, l.length * 4, none⟩)) (fun _ => HS7.out) (hy := by intro w' hSw; go_simp <;> (intro h; omega)) ?_
      refine tt 9 (.pointer (some ⟨nb, 5, none⟩)) (fun _ => HS7.out) ?_
      refine anyX_ready (rs := [8, 10]) (by kernel_rfl) (by simp) ?_
      refine ReadyX.cons rfl (fun K hK => ?_) (ReadyX.past rfl (by kernel_rfl) (fun K hK => ?_) ReadyX.nil)
      · go_simp
        have HSA := hid (HS7.out.trans (putC_turn g7 [.int .i64 kz, sv sz, .slice Az1 nz1 cz1, .slice Az2 nz2 cz2] w7 (l.length * 4)) (fun _ _ h => .inr (by omega)))
        refine hK.out _ _ HSA.out ?_
        clear hK K
        try simp only [Act.put, List.getElem_toArray, List.getElem_cons_zero, List.getElem_cons_succ, List.setIfInBounds_toArray, List.set_cons_zero, List.set_cons_succ]
        refine anyX_ready (rs := [10]) (by kernel_rfl) (by simp) ?_
        refine ReadyX.past rfl (by kernel_rfl) (fun K hK => ?_) (ReadyX.nil)
        go_simp
        refine hK.out _ _ ?_
        clear hK K
        try simp only [Act.put, List.getElem_toArray, List.getElem_cons_zero, List.getElem_cons_succ, List.setIfInBounds_toArray, List.set_cons_zero, List.set_cons_succ]
        refine anyX_done (by kernel_rfl) ?_ _
        obtain ⟨hrow8, t68, t78, hb8, how8⟩ := HE.out ((putC w7 g7 (l.length * 4) [.int .i64 kz, sv sz, .slice Az1 nz1 cz1, .slice Az2 nz2 cz2]).setCell ⟨nb, 5, none⟩ (.slice (some ⟨g7, 0, none⟩) (l.length + 1) c7)) (.inl rfl)
        have hblk8 := hb8 _ _ HB7.out
        have hk8 := HK7.out.turn t78 (fun e => by rcases e with e | e <;> omega) (fun k hk e => by have := HKQ.out.1; rcases e with e | e <;> omega)
        have hlo := HROW.out.lt
        have HQN : Hid (Pr.good (l ++ [x]) r10 = Q) := hid ((thenP_good HQR.out).symm.trans HQ.out)
        go_wp2_with fail
        go_end0
        have tall := (HTQ.out.mono (G := fun k => k = bp ∨ k = nb ∨ base ≤ k) (fun _ _ h => .inl h)).trans t68 (fun i hi e => by rcases e with e | e; exact .inr (.inr (hlo i e).1); exact .inr (.inl e))
        exact AddsP.done HQN.out.symm tall ⟨block_turn HBOX.out tall (by omega), _, hblk8, hrow8⟩ hk8
      · go_simp
        refine hK.out _ _ ?_
        clear hK K
        try simp only [Act.put, List.getElem_toArray, List.getElem_cons_zero, List.getElem_cons_succ, List.setIfInBounds_toArray, List.set_cons_zero, List.set_cons_succ]
        refine anyX_ready (rs := [8]) (by kernel_rfl) (by simp) ?_
        refine ReadyX.past rfl (by kernel_rfl) (fun K hK => ?_) (ReadyX.nil)
        go_simp
        refine hK.out _ _ ?_
        clear hK K
        try simp only [Act.put, List.getElem_toArray, List.getElem_cons_zero, List.getElem_cons_succ, List.setIfInBounds_toArray, List.set_cons_zero, List.set_cons_succ]
        refine anyX_done (by kernel_rfl) ?_ _
        obtain ⟨hrow8, t68, t78, hb8, how8⟩ := HE.out (putC (w7.setCell ⟨nb, 5, none⟩ (.slice (some ⟨g7, 0, none⟩) (l.length + 1) c7)) g7 (l.length * 4) [.int .i64 kz, sv sz, .slice Az1 nz1 cz1, .slice Az2 nz2 cz2]) (.inr rfl)
        have hblk8 := hb8 _ _ HB7.out
        have hk8 := HK7.out.turn t78 (fun e => by rcases e with e | e <;> omega) (fun k hk e => by have := HKQ.out.1; rcases e with e | e <;> omega)
        have hlo := HROW.out.lt
        have HQN : Hid (Pr.good (l ++ [x]) r10 = Q) := hid ((thenP_good HQR.out).symm.trans HQ.out)
        go_wp2_with fail
        go_end0
        have tall := (HTQ.out.mono (G := fun k => k = bp ∨ k = nb ∨ base ≤ k) (fun _ _ h => .inl h)).trans t68 (fun i hi e => by rcases e with e | e; exact .inr (.inr (hlo i e).1); exact .inr (.inl e))
        exact AddsP.done HQN.out.symm tall ⟨block_turn HBOX.out tall (by omega), _, hblk8, hrow8⟩ hk8
set_option maxRecDepth 100000 in
set_option maxHeartbeats 8000000 in
theorem pnamed_any (d : Int) (typ : Ps TyD) (hsf : Sf typ) (HTY : TypC d typ) (w : World) (bp B : Nat) (ts : List TokD) (h : TkAt w bp B ts d) (t : TokD) :
    Calls Tryz.prog 201 #[.pointer (some ⟨bp, 0, none⟩), .agg (nodeC 0 t)] w (ReadsP (PNo w.heap.size) bp B d w (namedP typ t ts)) := by
  have hlt := h.lt
  have hB := h.1
  obtain ⟨Q, hQ⟩ : ∃ Q, namedP typ t ts = Q := ⟨_, rfl⟩
  rw [hQ]
  have HQ : Hid (thenP nameP (fun s => thenP (hasP [91]) fun b => if b then thenP (sepP typ) fun l => thenP (wantP [93]) fun _ => retP (nodeD 19 s 0 t l [] []) else retP (nodeD 4 s 0 t [] [] [])) ts = Q) := hid hQ
  have HN := hid (pname_any (((w.alloc (.cells #[.pointer (some ⟨bp, 0, none⟩)] 94)).alloc (.cells (nodeC 0 t) 49)).alloc (.cells #[.int .i64 0, .string ⟨#[]⟩, .int .i64 0, .int .i64 0, .int .i64 0, .slice none 0 0, .slice none 0 0, .slice none 0 0] 49)) bp B ts d (h.below (new3 _ _ _ _)))
  clear h hQ
  go_enter Tryz.func201, Tryz.ntmps201
  go_wp2_with fail
  refine (HN.out).mono ?_
  rintro e w1 h1
  rcases hq : nameP ts with g | ⟨s, r1⟩
  · obtain ⟨rfl, tn, bn⟩ := h1.bad_ hq
    have tn := (after3 tn).1
    have HB := hid (BadP.mk2 tn bn)
    have HQB := hid (HQ.out.symm.trans (thenP_bad hq))
    clear h1 tn bn hq
    go_wp2_with fail
    exact ⟨rfl, ReadsP.fail HQB.out HB.out⟩
  · obtain ⟨v1, rfl, tn, rfl, kn⟩ := h1.good_ hq
    obtain ⟨tm, hs1, hbx, hnb, hrs⟩ := after3 tn
    have HT1 := hid tm
    have HBX1 := hid (hbx (by omega))
    have hnb1 := hnb (by omega)
    have HRS1 := hid (hrs (by omega))
    have HQ1 : Hid (thenP (hasP [91]) (fun b => if b then thenP (sepP typ) fun l => thenP (wantP [93]) fun _ => retP (nodeD 19 s 0 t l [] []) else retP (nodeD 4 s 0 t [] [] [])) r1 = Q) := hid ((thenP_good hq).symm.trans HQ.out)
    have t2 := (turn_set w1 (w.heap.size + 1) 0 (.int .i64 4)).trans (turn_set _ (w.heap.size + 1) 1 (sv s)) (fun _ _ h => h)
    have hnb2 := heap_setCell_same _ _ 1 _ _ (sv s) (heap_setCell_same _ _ 0 _ _ (.int .i64 4) hnb1)
    have HK2 := hid (kn.turn t2 (by omega) (fun k hk e => by omega))
    have HBX2 := hid (block_turn HBX1.out t2 (by omega))
    have HRS2 := hid (block_turn HRS1.out t2 (by omega))
    have HNB2 := hid (show ((w1.setCell ⟨w.heap.size + 1, 0, none⟩ (.int .i64 4)).setCell ⟨w.heap.size + 1, 1, none⟩ (sv s)).heap[w.heap.size + 1]? = some (.cells #[.int .i64 4, sv s, .int .i64 0, .int .i64 (t.line : Nat), .int .i64 (t.col : Nat), .slice none 0 0, .slice none 0 0, .slice none 0 0] 49 (0, 0)) from hnb2)
    have HT2 := hid (HT1.out.trans t2 (fun i hi e => by omega))
    have hw2 := t2.size
    have HH := hid (has_any _ bp B r1 d HK2.out [91])
    obtain ⟨m0, m1, m2, m3, m4, m5, m6, m7, mz⟩ := cells8 hnb1
    have hb1 := cells1 HBX1.out
    have hnp1 : ¬ w.heap.size + 1 = w.heap.size := by omega
    have hnp2 : ¬ w.heap.size = w.heap.size + 1 := by omega
    clear h1 tn tm kn hbx hnb hrs hq hnb1 t2 hnb2
    go_wp2_with fail
    generalize (w1.setCell ⟨w.heap.size + 1, 0, none⟩ (.int .i64 4)).setCell ⟨w.heap.size + 1, 1, none⟩ (.string ⟨s.toArray⟩) = W2 at *
    refine (HH.out).mono ?_
    rintro e w3 h3
    rcases hq : hasP [91] r1 with g | ⟨b, r3⟩
    · exact (hasP_bad hq).elim
    · obtain ⟨v3, rfl, tn, rfl, kn⟩ := h3.good_ hq
      have hs3 := tn.size
      have HT3 := hid (turn_bp HT2.out tn)
      have HK3 := hid kn
      have hbx3 := block_turn HBX2.out tn (by omega)
      have HBX3 := hid hbx3
      have HRS3 := hid (block_turn HRS2.out tn (by omega))
      have hnb3 := block_turn HNB2.out tn (by omega)
      have HNB3 := hid hnb3
      have HQ3 := hid hq
      obtain ⟨m0, m1, m2, m3, m4, m5, m6, m7, mz⟩ := cells8 hnb3
      have hb3 := cells1 hbx3
      clear h3 tn kn hq hnb3 hbx3
      cases b
      · have HQ4 : Hid (Pr.good (nodeD 4 s 0 t [] [] []) r3 = Q) := hid ((thenP_good HQ3.out).symm.trans HQ1.out)
        obtain ⟨c0, c1, c2, c3, c4, c5, c6, c7, cz⟩ := cells8 HRS3.out
        go_wp2_with fail
        refine bodyPost_ret (res_cell rfl rfl (put8_block HRS3.out _ _ _ _ _ _ _ _) Tryz.underlying49 rfl (by kernel_rfl)) rfl ?_
        exact ReadsP.done HQ4.out.symm (new_turn8 HT3.out (by omega)) ⟨_, rfl, .mk (SlG.nil _ _ _) .nil (SlG.nil _ _ _) (SlG.nil _ _ _) .nil⟩ (HK3.out.put8_ (by omega))
      · have HQ4 : Hid (thenP (sepP typ) (fun l => thenP (wantP [93]) fun _ => retP (nodeD 19 s 0 t l [] [])) r3 = Q) := hid ((thenP_good HQ3.out).symm.trans HQ1.out)
        have hmf : ∀ (fn : Fn) (first cap : Array Value) (w : World), (Instr.makeFunc fn first cap).run Tryz.prog w = .ok (.func fn first cap) w := fun _ _ _ _ => rfl
        have t4 := turn_set w3 (w.heap.size + 1) 0 (.int .i64 19)
        have hk4 := HK3.out.turn t4 (by omega) (fun k hk e => by omega)
        have hI4 : NamI w.heap.size (w.heap.size + 1) (w.heap.size + 3) bp s t (w3.setCell ⟨w.heap.size + 1, 0, none⟩ (.int .i64 19)) [] := ⟨block_turn HBX3.out t4 (by omega), _, heap_setCell_same _ _ 0 _ _ _ HNB3.out, RowG.nil _ _ _ _ _ _⟩
        have HT4 := hid (HT3.out.trans t4 (fun i hi e => by omega))
        have hs4 := t4.size
        have HRS4 := hid (block_turn HRS3.out t4 (by omega))
        have HSV := hid (several_any typ hsf 218 #[.pointer (some ⟨w.heap.size + 1, 0, none⟩), .pointer (some ⟨w.heap.size, 0, none⟩)] (NamI w.heap.size (w.heap.size + 1) (w.heap.size + 3) bp s t) (fun k => k = bp ∨ k = w.heap.size + 1 ∨ w.heap.size + 3 ≤ k) d _ bp B r3 (.inl rfl)
          (fun a b l tn h => h.turn tn (by omega) (by omega) (by omega)) (fun g h => .inr (.inr (by omega)))
          (fun w1 r l hl hw hi hk => named1_any d typ HTY w1 bp B _ _ _ s t r l hl hk hi (by omega) (by omega) (by omega) (by omega) (by omega) (by omega)) (fun _ => by kernel_rfl) hk4 hI4)
        clear t4 hk4 hI4
        go_wp2_with fail
        refine (HSV.out).mono ?_
        rintro e w5 h5
        rcases hq : sepP typ r3 with g | ⟨l, r5⟩
        · obtain ⟨rfl, tn, bn⟩ := h5.bad_ hq
          have HB := hid (BadP.mk2 (HT4.out.trans tn (fun i hi e => by rcases e with e | e | e <;> omega)) bn)
          have HQB := hid (HQ4.out.symm.trans (thenP_bad hq))
          clear h5 tn bn hq
          go_wp2_with fail
          exact ⟨rfl, ReadsP.fail HQB.out HB.out⟩
        · obtain ⟨rfl, tn, hI5, kn⟩ := h5.good_ hq
          have hs5 := tn.size
          have HT5 := hid (HT4.out.trans tn (fun i hi e => by rcases e with e | e | e <;> omega))
          have HRS5 := hid (block_turn HRS4.out tn (by omega))
          have HI5 := hid hI5
          have HK5 := hid kn
          have hb5 := cells1 hI5.1
          have HQ5 : Hid (thenP (wantP [93]) (fun _ => retP (nodeD 19 s 0 t l [] [])) r5 = Q) := hid ((thenP_good hq).symm.trans HQ4.out)
          have HN5 := hid (want_lit w5 bp B r5 d kn [93] 9 w5.heap.size)
          clear h5 tn hI5 kn hq
          go_wp2_with fail
          refine (HN5.out).mono ?_
          rintro e w6 h6
          rcases hq : wantP [93] r5 with g | ⟨u, r6⟩
          · obtain ⟨rfl, tn, bn⟩ := h6.bad_ hq
            have HB := hid (BadP.mk2 (turn_bp HT5.out tn) bn)
            have HQB := hid (HQ5.out.symm.trans (thenP_bad hq))
            clear h6 tn bn hq
            go_wp2_with fail
            exact ⟨rfl, ReadsP.fail HQB.out HB.out⟩
          · obtain ⟨v6, rfl, tn, -, kn⟩ := h6.good_ hq
            have HT6 := hid (turn_bp HT5.out tn)
            have HK6 := hid kn
            have HRS6 := hid (block_turn HRS5.out tn (by omega))
            have HQ6 : Hid (Pr.good (nodeD 19 s 0 t l [] []) r6 = Q) := hid ((thenP_good hq).symm.trans HQ5.out)
            obtain ⟨_, v, hn6, hr6⟩ := HI5.out.turn tn (by omega) (by omega) (by omega)
            obtain ⟨A6, c6', hv6, _, _⟩ := hr6.shape
            subst hv6
            have HR6 := hid hr6
            obtain ⟨f0, f1, f2, f3, f4, f5, f6, f7, fz⟩ := cells8 hn6
            clear h6 tn kn hq hn6 hr6
            obtain ⟨c0, c1, c2, c3, c4, c5, c6, c7, cz⟩ := cells8 HRS6.out
            go_wp2_with fail
            refine bodyPost_ret (res_cell rfl rfl (put8_block HRS6.out _ _ _ _ _ _ _ _) Tryz.underlying49 rfl (by kernel_rfl)) rfl ?_
            obtain ⟨xs, q1, q2⟩ := HR6.out.sl foot_ty
            have tF := put8_turn w6 (w.heap.size + 1 + 1) (.int .i64 19) (sv s) (.int .i64 0) (.int .i64 (t.line : Nat)) (.int .i64 (t.col : Nat)) (.slice A6 l.length c6') (.slice none 0 0) (.slice none 0 0)
            exact ReadsP.done HQ6.out.symm (new_turn8 HT6.out (by omega)) ⟨_, rfl, .mk ((q1.turn tF (fun g _ h e => by rcases h with h | h <;> omega)).mono (fun g _ h => by rcases h with h | h <;> omega)) (tys_row (row_mono foot_ty (fun g _ h => by rcases h with h | h <;> omega) (row_turn foot_ty tF (fun g _ h e => by rcases h with h | h <;> omega) q2))) (SlG.nil _ _ _) (SlG.nil _ _ _) .nil⟩ (HK6.out.put8_ (by omega))
end Go.Proofs.YtmbppnbekkbibaaGreatDoor
end
section
/- The contract of the function that reads a field of a record. -/
set_option linter.unusedVariables false
namespace Go.Proofs.YtmbppnbekkbibaaGreatDoor
open Go.RowKit

theorem own_ne {w : World} {b1 b2 k1 k2 n1 n2 : Nat} {e1 e2 : TypeId} {v1 v2 : Value} {xs1 xs2 : List Value} (h1 : w.ownsRow b1 e1 k1 v1 n1 xs1) (h2 : w.ownsRow b2 e2 k2 v2 n2 xs2) (he : e1 ≠ e2) (g : Nat) (hg : v1.ownBlock = some g) : v2.ownBlock ≠ some g := by
  intro hg2
  rcases h1.2 with ⟨rfl, _⟩ | ⟨g1, _, c1, rfl, _, hb1, _⟩
  · cases hg
  rcases h2.2 with ⟨rfl, _⟩ | ⟨g2, _, c2, rfl, _, hb2, _⟩
  · cases hg2
  injection hg with hg
  injection hg2 with hg2
  simp only at hg hg2
  subst hg hg2
  rw [hb1] at hb2
  injection hb2 with hb2
  injection hb2 with _ hb2
  exact he hb2
/-- A record while its fields are read. -/
structure RecH (pb qb nb base bp : Nat) (t : TokD) (w : World) (l1 : List Bt) (l2 : List NoD) (v1 v2 : Value) : Prop where
  box : w.heap[pb]? = some (.cells #[.pointer (some ⟨bp, 0, none⟩)] 94 (0, 0))
  box2 : w.heap[qb]? = some (.cells #[.pointer (some ⟨nb, 0, none⟩)] 158 (0, 0))
  blk : w.heap[nb]? = some (.cells #[.int .i64 8, .string ⟨#[]⟩, .int .i64 0, .int .i64 (t.line : Nat), .int .i64 (t.col : Nat), .slice none 0 0, v1, v2] 49 (0, 0))
  nam : OwnS w base 9 v1 l1
  kid : Nos base (fun j => base ≤ j ∧ v1.ownBlock ≠ some j) w v2 l2
structure RecP (pb qb nb base bp : Nat) (w : World) : Prop where
  bp_pb : bp < pb
  bp_qb : bp < qb
  bp_nb : bp < nb
  nb_pb : nb < pb
  nb_qb : nb < qb
  pb_b : pb < base
  qb_b : qb < base
  b_s : base ≤ w.heap.size
theorem RecP.size {pb qb nb base bp : Nat} {w w' : World} (h : RecP pb qb nb base bp w) (t : w.heap.size ≤ w'.heap.size) : RecP pb qb nb base bp w' := { h with b_s := Nat.le_trans h.b_s t }
theorem RecH.ne {pb qb nb base bp : Nat} {t : TokD} {w : World} {l1 : List Bt} {l2 : List NoD} {v1 v2 : Value} (h : RecH pb qb nb base bp t w l1 l2 v1 v2) (g : Nat) (hg : v1.ownBlock = some g) : v2.ownBlock ≠ some g := by
  obtain ⟨ys, h2, _⟩ := h.kid
  exact own_ne h.nam.row h2 (by decide) g hg
theorem RecH.turn {pb qb nb base bp : Nat} {t : TokD} {w w' : World} {l1 : List Bt} {l2 : List NoD} {v1 v2 : Value} (h : RecH pb qb nb base bp t w l1 l2 v1 v2) (p : RecP pb qb nb base bp w) (tn : Turn (fun k => k = bp) w w') : RecH pb qb nb base bp t w' l1 l2 v1 v2 := by
  obtain ⟨p1, p2, p3, p4, p5, p6, p7, p8⟩ := p
  exact ⟨block_turn h.box tn (by omega), block_turn h.box2 tn (by omega), block_turn h.blk tn (by omega), h.nam.turn tn (fun g hg e => by have := (h.nam.lt g hg).1; omega), h.kid.turn foot_no tn (fun g hg e => by have := (h.kid.lt g hg).1; omega) (fun g _ hg e => by have := hg.1; omega)⟩
/-- A name more. -/
theorem RecH.name {pb qb nb base bp : Nat} {t : TokD} {w w7 : World} {l1 : List Bt} {l2 : List NoD} {v1 v2 v7 : Value} {o : Obj} {s : Bt} (h : RecH pb qb nb base bp t w l1 l2 v1 v2) (p : RecP pb qb nb base bp w)
    (h7 : OwnS w7 base 9 v7 (l1 ++ [s])) (hg : (w.alloc o).grownBy w7 v1.ownBlock) (hbk : v7.ownBlock = v1.ownBlock ∨ v7.ownBlock = some (w.alloc o).heap.size) :
    RecH pb qb nb base bp t (w7.setCell ⟨nb, 6, none⟩ v7) (l1 ++ [s]) l2 v7 v2 ∧ Turn (fun j => v1.ownBlock = some j ∨ j = nb) w (w7.setCell ⟨nb, 6, none⟩ v7) := by
  obtain ⟨p1, p2, p3, p4, p5, p6, p7, p8⟩ := p
  have t7 : Turn (fun j => v1.ownBlock = some j) w w7 := (Turn.alloc _ _ _).trans (Turn.of_grown hg (fun k h => h)) (fun _ _ h => h)
  have t8 := turn_set w7 nb 6 v7
  have hs : (w.alloc o).heap.size = w.heap.size + 1 := by simp
  have hlt := h.nam.lt
  have hk := h.kid
  have hkl := hk.lt
  have k1 : Nos base (fun j => (base ≤ j ∧ v1.ownBlock ≠ some j) ∧ v7.ownBlock ≠ some j) w v2 l2 := hk.mono foot_no fun g hg h => ⟨h, fun e => by
    rcases hbk with hb | hb
    · rw [hb] at e; exact h.2 e
    · rw [hb, hs] at e; injection e with e; omega⟩
  have k7 := k1.turn foot_no t7 (fun g hg e => h.ne g e hg) (fun g _ hg e => hg.1.2 e)
  have k8 := k7.turn foot_no t8 (fun g hg e => by have := (hkl g hg).1; omega) (fun g _ hg e => by have := hg.1.1; omega)
  exact ⟨⟨block_turn (block_turn h.box t7 (fun e => by have := (hlt _ e).1; omega)) t8 (by omega), block_turn (block_turn h.box2 t7 (fun e => by have := (hlt _ e).1; omega)) t8 (by omega), heap_setCell_same _ _ 6 _ _ _ (block_turn h.blk t7 (fun e => by have := (hlt _ e).1; omega)), h7.turn t8 (fun g hg e => by have := (h7.lt g hg).1; omega), k8.mono foot_no fun g _ h => ⟨h.1.1, h.2⟩⟩,
    (t7.mono (G := fun j => v1.ownBlock = some j ∨ j = nb) fun _ _ h => .inl h).trans t8 (fun _ _ h => .inr h)⟩
/-- What several keeps. -/
def RecI (pb qb nb base bp : Nat) (t : TokD) (w : World) (l : List (Bt × NoD)) : Prop := ∃ v1 v2, RecH pb qb nb base bp t w (l.map (·.1)) (l.map (·.2)) v1 v2
theorem pkids_one (expr : Ps NoD) (s : Bt) (hs : s ≠ []) (l : List NoD) (ts : List TokD) : kidsP expr [s] l ts = thenP (wantP s) (fun _ => thenP expr fun x => retP (l ++ [x])) ts := by
  rw [kidsP_cons, if_neg hs]; rfl
/-- kids behind one sign, with a record of any length. -/
theorem kidsP_field (expr : Ps NoD) (s : Bt) (l : List (Bt × NoD)) (ts : List TokD) : thenP (wantP [58]) (fun _ => thenP expr fun x => retP (l.map (·.2) ++ [x])) ts = (match thenP (thenP (wantP [58]) fun _ => thenP expr fun x => retP (s, x)) (fun x => retP (l ++ [x])) ts with | .good y r => .good (y.map (·.2)) r | .bad g => .bad g) := by
  unfold thenP
  cases h1 : wantP [58] ts with
  | bad g => rfl
  | good u r =>
    simp only
    cases h2 : expr r with
    | bad g => rfl
    | good x r2 => simp [retP]
theorem field_last {expr : Ps NoD} {s : Bt} {l y : List (Bt × NoD)} {ts r : List TokD} (h : thenP (thenP (wantP [58]) fun _ => thenP expr fun x => retP (s, x)) (fun x => retP (l ++ [x])) ts = .good y r) : ∃ x, y = l ++ [(s, x)] := by
  rcases h1 : wantP [58] ts with g | ⟨u, r1⟩
  · rw [then2_bad h1] at h; cases h
  rw [then2_good h1] at h
  rcases h2 : expr r1 with g | ⟨x, r2⟩
  · rw [then2_bad h2] at h; cases h
  rw [then2_good h2] at h
  injection h with h _
  exact ⟨x, h.symm⟩

set_option maxRecDepth 100000 in
set_option maxHeartbeats 8000000 in
theorem record1_any (d : Int) (expr : Ps NoD) (HEX : ExprC d expr) (w : World) (bp B pb qb nb base : Nat) (t : TokD) (ts : List TokD) (l : List (Bt × NoD)) (hl : l.length ≤ 8193) (h : TkAt w bp B ts d) (hI : RecI pb qb nb base bp t w l) (hP : RecP pb qb nb base bp w) :
    Calls Tryz.prog 219 #[.pointer (some ⟨qb, 0, none⟩), .pointer (some ⟨pb, 0, none⟩)] w (AddsP (RecI pb qb nb base bp t) (fun k => k = bp ∨ k = nb ∨ base ≤ k) bp B d w (moreP (nfieldP expr) l ts)) := by
  obtain ⟨v1, v2, hH⟩ := hI
  obtain ⟨p1, p2, p3, p4, p5, p6, p7, p8⟩ := hP
  have HN := hid (pname_any w.drew bp B ts d h)
  have hbx := cells1 hH.box
  have hbq := cells1 hH.box2
  obtain ⟨t0, t1, t2, t3, t4, t5, t6, t7, tz⟩ := cells8 hH.blk
  obtain ⟨A1, c1, hv1, hn1, hm1⟩ := hH.nam.ss.open_
  simp only [List.length_map] at hv1 hn1
  subst hv1
  have HH := hid hH
  have HP : Hid (RecP pb qb nb base bp w) := hid ⟨p1, p2, p3, p4, p5, p6, p7, p8⟩
  obtain ⟨Q, hQ⟩ : ∃ Q, moreP (nfieldP expr) l ts = Q := ⟨_, rfl⟩
  rw [hQ]
  have HQ : Hid (thenP (nfieldP expr) (fun x => retP (l ++ [x])) ts = Q) := hid hQ
  have P0 := hid (fun (w' : World) (h : Turn (fun j => j = bp ∨ base ≤ j) w w') => tcell hbx h (by omega))
  have P1 := hid (fun (w' : World) (h : Turn (fun j => j = bp ∨ base ≤ j) w w') => tcell hbq h (by omega))
  have P2 := hid (fun (w' : World) (h : Turn (fun j => j = bp ∨ base ≤ j) w w') => tcell t6 h (by omega))
  have HD0 : Hid (Turn (fun j => j = bp ∨ base ≤ j) w w.drew) := hid ⟨rfl, rfl, rfl, Nat.le_refl _, fun _ _ _ => rfl⟩
  have HDB : Hid (Turn (fun j => j = bp) w w.drew) := hid ⟨rfl, rfl, rfl, Nat.le_refl _, fun _ _ _ => rfl⟩
  clear hH h hm1 hQ hbx hbq t0 t1 t2 t3 t4 t5 t6 t7 tz
  go_enter Tryz.func219, Tryz.ntmps219
  go_wp2_with fail
  refine region_x (S := fun w' => Turn (fun j => j = bp ∨ base ≤ j) w w') (x := 13) (by kernel_rfl) ?_
  try simp only [Act.put, List.getElem_toArray, List.getElem_cons_zero, List.getElem_cons_succ, List.setIfInBounds_toArray, List.set_cons_zero, List.set_cons_succ]
  refine txf 0 (.pointer (some ⟨nb, 0, none⟩)) P1.out HD0.out ?_
  refine txf 1 (.pointer (some ⟨nb, 0, none⟩)) P1.out HD0.out ?_
  refine tx 2 (.pointer (some ⟨nb, 0, none⟩)) HD0.out ?_
  refine tx 3 (.pointer (some ⟨nb, 6, none⟩)) HD0.out ?_
  refine txf 4 (.slice A1 l.length c1) P2.out HD0.out ?_
  refine txf 5 (.pointer (some ⟨bp, 0, none⟩)) P0.out HD0.out ?_
  refine tx 6 (.pointer (some ⟨bp, 0, none⟩)) HD0.out ?_
  refine tx 7 (.pointer (some ⟨bp, 0, none⟩)) HD0.out ?_
  refine anyX_ready (rs := [8]) (by kernel_rfl) (by simp) ?_
  refine ReadyX.cons rfl (fun K hK => ?_) (ReadyX.nil)
  go_simp
  refine (HN.out).mono ?_
  rintro e w2 h2
  rcases hq : nameP ts with g | ⟨s, r⟩
  · obtain ⟨rfl, tn, bn⟩ := h2.bad_ hq
    have tn := HDB.out.trans tn (fun _ _ h => h)
    have HQB := hid (HQ.out.symm.trans (thenP_bad (thenP_bad hq)))
    exact ⟨rfl, AddsP.fail HQB.out (tn.mono fun _ _ h => .inl h) bn⟩
  · obtain ⟨v, rfl, t2w, rfl, k2⟩ := h2.good_ hq
    have tb2 := HDB.out.trans t2w (fun _ _ h => h)
    have HT2 := hid (tb2.mono (G := fun j => j = bp ∨ base ≤ j) (fun _ _ h => .inl h))
    have HTB2 := hid tb2
    have HK2 := hid k2
    have HH2 := hid (HH.out.turn HP.out tb2)
    have HP2 := hid (HP.out.size tb2.size)
    have HQ1 : Hid (thenP (thenP (wantP [58]) fun _ => thenP expr fun x => retP (s, x)) (fun x => retP (l ++ [x])) r = Q) := hid ((then2_good (p := nameP) hq).symm.trans HQ.out)
    clear h2 t2w k2 hq tb2
    refine hK.out _ _ HT2.out ?_
    clear hK K
    try simp only [Act.put, List.getElem_toArray, List.getElem_cons_zero, List.getElem_cons_succ, List.setIfInBounds_toArray, List.set_cons_zero, List.set_cons_succ]
    refine anyX_ready (rs := [9]) (by kernel_rfl) (by simp) ?_
    refine ReadyX.cons rfl (fun K hK => ?_) (ReadyX.nil)
    go_simp
    have HT3 := hid (HT2.out.trans (Turn.alloc (fun j => j = bp ∨ base ≤ j) w2 (.cells #[sv s] 9)) (fun _ _ h => h))
    refine hK.out _ _ HT3.out ?_
    clear hK K
    try simp only [Act.put, List.getElem_toArray, List.getElem_cons_zero, List.getElem_cons_succ, List.setIfInBounds_toArray, List.set_cons_zero, List.set_cons_succ]
    refine anyX_ready (rs := [10]) (by kernel_rfl) (by simp) ?_
    refine ReadyX.cons rfl (fun K hK => ?_) (ReadyX.nil)
    have HROW := hid (HH2.out.nam.alloc (.cells #[sv s] 9))
    have HSS := hid (ss_new w2 s 9)
    refine step_app rfl (.tmp 6) (.tmp 11) _ rfl base el_str (.slice A1 l.length c1) (.slice (some ⟨w2.heap.size, 0, none⟩) 1 1) rfl rfl HROW.out.row HSS.out (svs_one _) (by simp [svs, maxLen]; omega) (by simp [svs]; omega) (by have := HP2.out.b_s; simp; omega) (fun v7 w7 n7 hown7 hg7 hbk7 => ?_)
    obtain ⟨A7, c7, rfl, _, _⟩ := own_sh hown7
    obtain ⟨hH8, ht8⟩ := HH2.out.name HP2.out (o := .cells #[sv s] 9) (s := s) (w7 := w7) ⟨n7, by rw [svs_append]; exact hown7⟩ hg7 hbk7
    have HH8 := hid hH8
    have HT8 := hid ht8
    have HT7 := hid (HT3.out.trans (Turn.of_grown hg7 (F := fun j => j = bp ∨ base ≤ j) (fun k e => .inr (HROW.out.lt k e).1)) (fun _ _ h => h))
    have hnb7 := block_turn HH.out.blk HT7.out (by omega)
    obtain ⟨t0, t1, t2, t3, t4, t5, t6, t7, tz⟩ := cells8 hnb7
    clear hH8 ht8 hown7 hg7 hbk7 hnb7
    refine hK.out _ _ HT7.out ?_
    clear hK K
    try simp only [Act.put, List.getElem_toArray, List.getElem_cons_zero, List.getElem_cons_succ, List.setIfInBounds_toArray, List.set_cons_zero, List.set_cons_succ]
    refine tt 11 (.pointer (some ⟨nb, 0, none⟩)) (fun _ => HT7.out) ?_
    refine tx 12 (.pointer (some ⟨nb, 6, none⟩)) HT7.out ?_
    refine anyX_ready (rs := [13]) (by kernel_rfl) (by simp) ?_
    refine ReadyX.past rfl (by kernel_rfl) (fun K hK => ?_) (ReadyX.nil)
    go_simp
    refine hK.out _ _ ?_
    clear hK K
    try simp only [Act.put, List.getElem_toArray, List.getElem_cons_zero, List.getElem_cons_succ, List.setIfInBounds_toArray, List.set_cons_zero, List.set_cons_succ]
    refine anyX_done (by kernel_rfl) ?_ _
    have hP8 := HP2.out.size HT8.out.size
    have hlo2 := HH2.out.nam.lt
    have hk8 := HK2.out.turn HT8.out (fun e => by rcases e with e | e; (have := (hlo2 _ e).1; omega); omega) (fun k hk e => by
      have := HK2.out.1
      rcases e with e | e
      · have := (hlo2 _ e).1; omega
      · omega)
    have HTT := hid ((HTB2.out.mono (G := fun k => k = bp ∨ k = nb ∨ base ≤ k) (fun _ _ h => .inl h)).trans HT8.out (fun i _ e => by
      rcases e with e | e
      · exact .inr (.inr (hlo2 i e).1)
      · exact .inr (.inl e)))
    have HP8 := hid hP8
    have HK8 := hid hk8
    obtain ⟨W8, hW8⟩ : ∃ W8, w7.setCell ⟨nb, 6, none⟩ (.slice A7 n7 c7) = W8 := ⟨_, rfl⟩
    rw [hW8] at HH8 HT8 HTT HP8 HK8
    have HW8 := hid hW8
    have hbx8 := cells1 HH8.out.box
    have hbq8 := cells1 HH8.out.box2
    have hlo8 := HH8.out.nam.lt
    have hs8 := HP8.out.b_s
    have HFF := hid ((pkids_one expr [58] (by simp) (l.map (·.2)) r).trans (kidsP_field expr s l r))
    rw [HQ1.out] at HFF
    obtain ⟨Av, cv, hvv, _, _⟩ := HH8.out.kid.shape
    rw [List.length_map] at hvv
    subst hvv
    have hkl8 := HH8.out.kid.lt
    have hl8 : (l.map (·.2)).length ≤ 8900 := by rw [List.length_map]; omega
    have HKC := hid (kids_any d expr HEX (W8.alloc (.cells #[.string ⟨#[58]⟩] 9)) bp B nb base (fun j => base ≤ j ∧ (Value.slice A7 n7 c7).ownBlock ≠ some j) r (HK8.out.below (new1 _ _)) (.int .i64 8) (.string ⟨#[]⟩) (.int .i64 0) (.int .i64 (t.line : Nat)) (.int .i64 (t.col : Nat)) (.slice none 0 0) (.slice A7 n7 c7) (.slice Av l.length cv) (l.map (·.2)) (keep_alloc HH8.out.blk) (HH8.out.kid.turn foot_no (Turn.alloc (fun _ => False) W8 (.cells #[.string ⟨#[58]⟩] 9)) (fun _ _ => id) (fun _ _ _ => id)) (.slice (some ⟨W8.heap.size, 0, none⟩) 1 1) [[58]] ((slG_new W8 #[.string ⟨#[58]⟩] 9 1 1 rfl (by decide)).mono (fun g _ h => ⟨by omega, by omega, fun e => by have := (hkl8 _ e).2; omega⟩)) (by simp) hl8 (by omega) (by omega) (by simp; omega) (fun h => by have := h.1; omega) (fun h => by have := h.1; omega) (fun j hj => by simp at hj; exact ⟨by omega, fun e => by have := (hlo8 j e).2; omega⟩))
    have HLO := hid (And.intro hlo8 hkl8)
    clear hlo8 hkl8 hlo2 hP8 hk8 hW8 hl8
    rw [HW8.out]
    go_wp2_with fail
    refine (HKC.out).mono ?_
    rintro e w9 h9
    rw [HFF.out] at h9
    rcases Q with g | ⟨y, r9⟩
    · obtain ⟨rfl, tn, bn⟩ := h9.bad_ rfl
      have HTN := hid (after1 tn).1
      have HB := hid bn
      clear h9 tn bn
      go_wp2_with fail
      exact ⟨rfl, AddsP.fail rfl (HTT.out.trans HTN.out (fun i _ e => by rcases e with e | e | e; exact .inl e; exact .inr (.inl e); exact .inr (.inr (HLO.out.2 i e).1))) HB.out⟩
    · obtain ⟨rfl, tn, ⟨v9, hb9, hr9⟩, kn⟩ := h9.good_ rfl
      obtain ⟨x, hy⟩ := field_last HQ1.out
      have HTN := hid (after1 tn).1
      have HB9 := hid hb9
      have HR9 := hid hr9
      have HK9 := hid kn
      have HY := hid hy
      clear h9 tn hb9 hr9 kn hy
      go_wp2_with fail
      go_end0
      have hne := HH8.out.ne
      refine AddsP.done rfl (HTT.out.trans HTN.out (fun i _ e => by rcases e with e | e | e; exact .inl e; exact .inr (.inl e); exact .inr (.inr (HLO.out.2 i e).1))) ⟨.slice A7 n7 c7, v9, ?_⟩ HK9.out
      have e1 : y.map (·.1) = l.map (·.1) ++ [s] := by rw [HY.out, List.map_append]; rfl
      rw [e1]
      exact ⟨block_turn HH8.out.box HTN.out (fun e => by rcases e with e | e | e; omega; omega; (have := (HLO.out.2 _ e).1; omega)), block_turn HH8.out.box2 HTN.out (fun e => by rcases e with e | e | e; omega; omega; (have := (HLO.out.2 _ e).1; omega)), HB9.out, HH8.out.nam.turn HTN.out (fun g hg e => by rcases e with e | e | e; (have := (HLO.out.1 g hg).1; omega); (have := (HLO.out.1 g hg).1; omega); exact hne g hg e), HR9.out⟩
end Go.Proofs.YtmbppnbekkbibaaGreatDoor
end
section
/- The contract of record. -/
set_option linter.unusedVariables false
namespace Go.Proofs.YtmbppnbekkbibaaGreatDoor
open Go.RowKit

/-- The second token. -/
theorem TkAt.second {w : World} {bp B : Nat} {t1 t2 : TokD} {r : List TokD} {d : Int} (h : TkAt w bp B (t1 :: t2 :: r) d) :
    ∃ b o c, r.length + 1 + 1 ≤ c ∧ w.cell? ⟨bp, 0, none⟩ = some (.slice (some ⟨b, o, none⟩) (r.length + 1 + 1) c) ∧ w.cell? ⟨b, o + 4, none⟩ = some (.int .i64 t2.kind) ∧ w.cell? ⟨b, o + 4 + 1, none⟩ = some (sv t2.text) ∧ w.cell? ⟨b, o + 4 + 2, none⟩ = some (.int .i64 (t2.line : Nat)) ∧ w.cell? ⟨b, o + 4 + 3, none⟩ = some (.int .i64 (t2.col : Nat)) := by
  obtain ⟨b, o, c, t, r', he, hc, hcm, hl, hB, hb, hbk, hs, d0, d1, z0, c0, c1, c2, c3⟩ := h.open_
  injection he with he1 he2
  subst he1 he2
  obtain ⟨A, n, c', hv, hlen, hn, hc', hx⟩ := hs
  injection hv with hv1 hv2 hv3
  subst hv1 hv2 hv3
  obtain ⟨b', o', hA, hb', hcell⟩ := hx (by simp)
  injection hA with hA
  injection hA with hA1 hA2
  subst hA1 hA2
  have g := fun (j : Nat) (u : Value) (hj : (tokCells (t1 :: t2 :: r))[j]? = some u) => hcell j u hj
  exact ⟨b, o, c, hc, d0, g 4 _ rfl, g 5 _ rfl, g 6 _ rfl, g 7 _ rfl⟩
theorem kidsP_len {expr : Ps NoD} : ∀ (a : List Bt) (l : List NoD) {ts r : List TokD} {y : List NoD}, kidsP expr a l ts = .good y r → y.length = l.length + a.length
  | [], l, ts, r, y, h => by injection h with h _; rw [← h]; rfl
  | s :: a, l, ts, r, y, h => by
    rw [kidsP_cons] at h
    rcases h1 : (if s = [] then retP () else wantP s) ts with g | ⟨u, r1⟩
    · rw [thenP_bad h1] at h; cases h
    rw [thenP_good h1] at h
    rcases h2 : expr r1 with g | ⟨x, r2⟩
    · rw [thenP_bad h2] at h; cases h
    rw [thenP_good h2] at h
    have := kidsP_len a _ h
    simp at this ⊢
    omega
theorem RecH.turn0 {pb qb nb base bp : Nat} {t : TokD} {w w' : World} {l1 : List Bt} {l2 : List NoD} {v1 v2 : Value} (h : RecH pb qb nb base bp t w l1 l2 v1 v2) (tn : Turn (fun k => k = bp) w w') (p1 : bp < pb) (p2 : bp < qb) (p3 : bp < nb) (p4 : bp < base) : RecH pb qb nb base bp t w' l1 l2 v1 v2 :=
  ⟨block_turn h.box tn (by omega), block_turn h.box2 tn (by omega), block_turn h.blk tn (by omega), h.nam.turn tn (fun g hg e => by have := (h.nam.lt g hg).1; omega), h.kid.turn foot_no tn (fun g hg e => by have := (h.kid.lt g hg).1; omega) (fun g _ hg e => by have := hg.1; omega)⟩
/-- What record leaves: nothing is answered, the node is told. -/
def PRec (nb base : Nat) (w : World) (v : Value) (x : NoD) : Prop := v = .tuple #[] ∧ ∃ z : List Value, w.heap[nb]? = some (.cells z.toArray 49 (0, 0)) ∧ NoG w (fun j => base ≤ j) z x
set_option maxRecDepth 100000 in
set_option maxHeartbeats 8000000 in
theorem record_any (d : Int) (expr : Ps NoD) (hse : Sf expr) (HEX : ExprC d expr) (w : World) (bp B nb : Nat) (t : TokD) (ts : List TokD) (h : TkAt w bp B ts d) (hnb : w.heap[nb]? = some (.cells (nodeC 0 t) 49 (0, 0))) (hbn : bp < nb) :
    Calls Tryz.prog 202 #[.pointer (some ⟨bp, 0, none⟩), .pointer (some ⟨nb, 0, none⟩)] w (ReadsX (PRec nb w.heap.size) (fun k => k = bp ∨ k = nb) bp B d w (recP expr t ts)) := by
  have hlt := h.lt
  have hnl := block_lt hnb
  have hB := h.1
  obtain ⟨Q, hQ⟩ : ∃ Q, recP expr t ts = Q := ⟨_, rfl⟩
  rw [hQ]
  have hwf := h.wf
  have t0 := turn_set w nb 0 (.int .i64 8)
  have hk0 := h.turn t0 (by omega) (fun k hk e => by omega)
  have hb0 := heap_setCell_same _ _ 0 _ _ (.int .i64 8) hnb
  have hs0 : (w.setCell ⟨nb, 0, none⟩ (.int .i64 8)).heap.size = w.heap.size := by simp
  obtain ⟨W1, hW1⟩ : ∃ W1, (((w.setCell ⟨nb, 0, none⟩ (.int .i64 8)).alloc (.cells #[.pointer (some ⟨bp, 0, none⟩)] 94)).alloc (.cells #[.pointer (some ⟨nb, 0, none⟩)] 158)) = W1 := ⟨_, rfl⟩
  obtain ⟨t1, hs1, hbx, hbq⟩ := after2 (G := fun _ => False) (Turn.refl _ (((w.setCell ⟨nb, 0, none⟩ (.int .i64 8)).alloc (.cells #[.pointer (some ⟨bp, 0, none⟩)] 94)).alloc (.cells #[.pointer (some ⟨nb, 0, none⟩)] 158)))
  rw [hs0] at hs1 hbx hbq
  have hk1 := hk0.turn t1 id (fun _ _ => id)
  have hb1 := block_turn hb0 t1 id
  rw [hW1] at t1 hs1 hbx hbq hk1 hb1
  have HT1 := hid ((t0.mono (G := fun k => k = bp ∨ k = nb) fun _ _ h => .inr h).trans t1 (fun _ _ h => h.elim))
  have HK1 := hid hk1
  have HB1 := hid hb1
  have HBX1 := hid (hbx id)
  have HBQ1 := hid (hbq id)
  have HW1 := hid hW1
  have HQ := hid hQ
  have HN := hid (fun (w2 : World) (hb : Below W1.heap.size W1 w2) => nxt_any w2 bp B ts d (hk1.below hb))
  have HI := hid (fun w1 s => is_any w1 (nextP ts) s)
  have hc1 := cells1 (hbx id)
  have hq1 := cells1 (hbq id)
  obtain ⟨m0, m1, m2, m3, m4, m5, m6, m7, mz⟩ := cells8 hnb
  clear h hQ t0 hk0 hb0 t1 hk1 hb1 hbx hbq hW1
  go_enter Tryz.func202, Tryz.ntmps202
  go_wp2_with fail
  rw [HW1.out]
  refine (HN.out _ (Below.refl _ _)).mono ?_
  rintro e w2 ⟨rfl, hb2⟩
  have HB2 := hid hb2
  clear hb2
  go_wp2_with fail
  refine (HI.out _ _).mono ?_
  rintro e w3 ⟨rfl, hb3⟩
  have HB3 := hid (HB2.out.trans (hb3.mono HB2.out.size))
  clear hb3
  cases hq : isT (nextP ts) [125]
  · have hs3 := HB3.out.size
    have HBX3 := hid (block_turn HBX1.out (Turn.of_below (F := fun _ => False) HB3.out) id)
    have HBQ3 := hid (block_turn HBQ1.out (Turn.of_below (F := fun _ => False) HB3.out) id)
    have HBL3 := hid (show w3.heap[nb]? = some (.cells #[.int .i64 8, .string ⟨#[]⟩, .int .i64 0, .int .i64 (t.line : Nat), .int .i64 (t.col : Nat), .slice none 0 0, .slice none 0 0, .slice none 0 0] 49 (0, 0)) from block_turn HB1.out (Turn.of_below (F := fun _ => False) HB3.out) id)
    have HQ3 : Hid (Q = thenP (seenP fun t ts => t.kind == 1 && isT (nextP (ts.drop 1)) [58]) (fun c => if c then thenP (sepP (nfieldP expr)) fun l => retP (nodeD 8 [] 0 t [] (l.map (·.1)) (l.map (·.2))) else thenP (kidsP expr [[]] []) fun k => thenP (wantP [119, 105, 116, 104]) fun _ => thenP nameP fun s => thenP (kidsP expr [[58]] k) fun m => retP (nodeD 10 s 0 t [] [] m)) ts) := hid (HQ.out.symm.trans (by unfold recP; rw [show (seenP fun t _ => isT t [125]) = (fun ts => Pr.good (isT (nextP ts) [125]) ts) from rfl]; unfold thenP; simp only [hq]; rfl))
    obtain ⟨hc3, hq3⟩ := And.intro (cells1 HBX3.out) (cells1 HBQ3.out)
    obtain ⟨c, hc⟩ : ∃ c, ((nextP ts).kind == 1 && isT (nextP (ts.drop 1)) [58]) = c := ⟨_, rfl⟩
    have HQ4 : Hid (Q = (if c then thenP (sepP (nfieldP expr)) fun l => retP (nodeD 8 [] 0 t [] (l.map (·.1)) (l.map (·.2))) else thenP (kidsP expr [[]] []) fun k => thenP (wantP [119, 105, 116, 104]) fun _ => thenP nameP fun s => thenP (kidsP expr [[58]] k) fun m => retP (nodeD 10 s 0 t [] [] m)) ts) := hid (by
      have e := HQ3.out
      unfold thenP at e
      simp only [seenP, hc] at e
      unfold thenP
      exact e)
    have f0 : ∀ w : World, (Instr.field 70 (tokG (nextP ts)) 0).run Tryz.prog w = .ok (.int .i64 (nextP ts).kind) w := fun _ => by kernel_rfl
    have HC := hid hc
    have HWF := hid hwf
    have HN3 := hid (HN.out w3 HB3.out)
    clear hc hwf hq
    by_cases hkd : (nextP ts).kind = 1
    · obtain ⟨t1, t2, r2, hts⟩ : ∃ t1 t2 r2, ts = t1 :: t2 :: r2 := by
        rcases HWF.out.cases with ⟨e, rfl, he⟩ | ⟨t1, r, rfl, hk1, hcol, hwr⟩
        · exact absurd hkd (by show ¬ e.kind = 1; rw [he]; decide)
        · rcases hwr.cases with ⟨e, rfl, _⟩ | ⟨t2, r2, rfl, _⟩
          · exact ⟨_, _, _, rfl⟩
          · exact ⟨_, _, _, rfl⟩
      have HTS := hid hts
      have hk2 : TkAt W1 bp B (t1 :: t2 :: r2) d := hts ▸ HK1.out
      have HK2 := hid hk2
      have HC2 : Hid (isT t2 [58] = c) := hid (by have := HC.out; rw [hkd, hts] at this; exact this)
      have HI2 := hid (fun w1 s => is_any w1 t2 s)
      have hkI : (nextP ts).kind = 1 := hkd
      clear hts hk2 hkd
      go_wp2_with fail
      refine (HN3.out).mono ?_
      rintro e w4 ⟨rfl, hb4⟩
      have HB4 := hid (HB3.out.trans (hb4.mono HB3.out.size))
      have hc4 := cells1 (block_turn HBX1.out (Turn.of_below (F := fun _ => False) HB4.out) id)
      obtain ⟨bb, oo, cc, hcc, d0, g0, g1, g2, g3⟩ := (HK2.out.below HB4.out).second
      clear hb4
      go_wp2_with fail
      refine (HI2.out _ _).mono ?_
      rintro e w5 ⟨rfl, hb5⟩
      rw [HC2.out]
      have HB5 := hid (HB4.out.trans (hb5.mono HB4.out.size))
      clear hb5 d0 g0 g1 g2 g3 hc4
      cases c
      · have HQ5 : Hid ((thenP (kidsP expr [[]] []) fun k => thenP (wantP [119, 105, 116, 104]) fun _ => thenP nameP fun s => thenP (kidsP expr [[58]] k) fun m => retP (nodeD 10 s 0 t [] [] m)) ts = Q) := hid HQ4.out.symm
        have tb := Turn.of_below (F := fun _ => False) HB5.out
        have HBXn := hid (block_turn HBX1.out tb id)
        have HBQn := hid (block_turn HBQ1.out tb id)
        have HBLn := hid (show w5.heap[nb]? = some (.cells #[.int .i64 8, .string ⟨#[]⟩, .int .i64 0, .int .i64 (t.line : Nat), .int .i64 (t.col : Nat), .slice none 0 0, .slice none 0 0, .slice none 0 0] 49 (0, 0)) from block_turn HB1.out tb id)
        have HTn := hid (HT1.out.trans tb (fun _ _ h => h.elim))
        have HKn := hid (HK1.out.below HB5.out)
        have hsn := HB5.out.size
        have hcn := cells1 HBXn.out
        have hqn := cells1 HBQn.out
        obtain ⟨b0, b1, b2, b3, b4, b5, b6, b7, bz⟩ := cells8 HBLn.out
        have t5 := turn_set w5 nb 0 (.int .i64 10)
        have HK5 := hid (HKn.out.turn t5 (by omega) (fun k hk e => by omega))
        have HT5 := hid (HTn.out.trans t5 (fun _ _ h => .inr h))
        have HBL5 := hid (heap_setCell_same _ _ 0 _ _ (.int .i64 10) HBLn.out)
        have HBX5 := hid (block_turn HBXn.out t5 (by omega))
        have HBQ5 := hid (block_turn HBQn.out t5 (by omega))
        have hne1 : ¬ nb = w.heap.size := by omega
        have hne2 : ¬ nb = w.heap.size + 1 := by omega
        have hsc : (w5.setCell ⟨nb, 0, none⟩ (.int .i64 10)).heap.size = w5.heap.size := by simp
        have HKC := hid (kids_any d expr HEX ((w5.setCell ⟨nb, 0, none⟩ (.int .i64 10)).alloc (.cells #[.string ⟨#[]⟩] 9)) bp B nb (w.heap.size + 2) (fun j => w.heap.size + 2 ≤ j) ts (HK5.out.below (new1 _ _)) (.int .i64 10) (.string ⟨#[]⟩) (.int .i64 0) (.int .i64 (t.line : Nat)) (.int .i64 (t.col : Nat)) (.slice none 0 0) (.slice none 0 0) (.slice none 0 0) [] (keep_alloc HBL5.out) (RowG.nil _ _ _ _ _ _) (.slice (some ⟨(w5.setCell ⟨nb, 0, none⟩ (.int .i64 10)).heap.size, 0, none⟩) 1 1) [[]] ((slG_new (w5.setCell ⟨nb, 0, none⟩ (.int .i64 10)) #[.string ⟨#[]⟩] 9 1 1 rfl (by decide)).mono (fun g _ h => ⟨by omega, by omega, fun e => by cases e⟩)) (by decide) (by simp) (by omega) (by omega) (by simp; omega) (by omega) (by omega) (fun j hj => by simp at hj; omega))
        rw [hsc] at HKC
        clear tb t5
        go_wp2_with fail
        refine (HKC.out).mono ?_
        rintro e w6 h6
        rcases hq : kidsP expr [[]] [] ts with g | ⟨ks, r6⟩
        · obtain ⟨rfl, tn, bn⟩ := h6.bad_ hq
          have tn := (after1 tn).1
          have HOB := hid (HT5.out.trans tn (fun i hi e => by rcases e with e | e | e; exact .inl e; exact .inr e; cases e))
          have HQB := hid (HQ5.out.symm.trans (thenP_bad hq))
          have HBN := hid bn
          clear h6 tn bn hq
          go_wp2_with fail
          exact ⟨rfl, ReadsX.fail HQB.out HOB.out HBN.out⟩
        · obtain ⟨rfl, tn, ⟨v6, hb6, hr6⟩, kn⟩ := h6.good_ hq
          have tk := (after1 tn).1
          have hs6 := tk.size
          have HT6 := hid (HT5.out.trans tk (fun i hi e => by rcases e with e | e | e; exact .inl e; exact .inr e; cases e))
          have HBX6 := hid (block_turn HBX5.out tk (fun e => by rcases e with e | e | e; omega; omega; cases e))
          have HBQ6 := hid (block_turn HBQ5.out tk (fun e => by rcases e with e | e | e; omega; omega; cases e))
          have HBL6 := hid hb6
          have HR6 := hid hr6
          have HK6 := hid kn
          have HKS := hid hq
          have HQ6 : Hid ((thenP (wantP [119, 105, 116, 104]) fun _ => thenP nameP fun s => thenP (kidsP expr [[58]] ks) fun m => retP (nodeD 10 s 0 t [] [] m)) r6 = Q) := hid ((thenP_good hq).symm.trans HQ5.out)
          have hc6 := cells1 HBX6.out
          have HN6 := hid (want_lit w6 bp B r6 d kn [119, 105, 116, 104] 9 w6.heap.size)
          clear h6 tn tk hb6 hr6 kn hq
          go_wp2_with fail
          refine (HN6.out).mono ?_
          rintro e w7 h7
          rcases hq : wantP [119, 105, 116, 104] r6 with g | ⟨u, r7⟩
          · obtain ⟨rfl, tn, bn⟩ := h7.bad_ hq
            have HOB := hid (HT6.out.trans tn (fun _ _ h => .inl h))
            have HQB := hid (HQ6.out.symm.trans (thenP_bad hq))
            have HBN := hid bn
            clear h7 tn bn hq
            go_wp2_with fail
            exact ⟨rfl, ReadsX.fail HQB.out HOB.out HBN.out⟩
          · obtain ⟨v7, rfl, tn, -, kn⟩ := h7.good_ hq
            have HT7 := hid (HT6.out.trans tn (fun _ _ h => .inl h))
            have HK7 := hid kn
            have hs7 := tn.size
            have HBX7 := hid (block_turn HBX6.out tn (by omega))
            have HBQ7 := hid (block_turn HBQ6.out tn (by omega))
            have hbl7 := block_turn HBL6.out tn (by omega)
            have HBL7 := hid hbl7
            have HR7 := hid (HR6.out.turn foot_no tn (fun g hg e => by have := (HR6.out.lt g hg).1; omega) (fun g _ hg e => by omega))
            obtain ⟨A6, q6, hv6, _, _⟩ := HR6.out.shape
            subst hv6
            have HQ7 : Hid ((thenP nameP fun s => thenP (kidsP expr [[58]] ks) fun m => retP (nodeD 10 s 0 t [] [] m)) r7 = Q) := hid ((thenP_good hq).symm.trans HQ6.out)
            have hx7 := cells1 HBX7.out
            have hz7 := cells1 HBQ7.out
            have PX := hid (fun (w' : World) (h : Turn (fun j => j = bp) w7 w') => tcell hx7 h (by omega))
            have PQ := hid (fun (w' : World) (h : Turn (fun j => j = bp) w7 w') => tcell hz7 h (by omega))
            have HE0 : Hid (Turn (fun j => j = bp) w7 w7.drew) := hid ⟨rfl, rfl, rfl, Nat.le_refl _, fun _ _ _ => rfl⟩
            have HN8 := hid (pname_any w7.drew bp B r7 d kn)
            clear h7 tn kn hq hbl7 hx7 hz7
            go_wp2_with fail
            refine region_x (S := fun w' => Turn (fun j => j = bp) w7 w') (x := 7) (by kernel_rfl) ?_
            try simp only [Act.put, List.getElem_toArray, List.getElem_cons_zero, List.getElem_cons_succ, List.setIfInBounds_toArray, List.set_cons_zero, List.set_cons_succ]
            refine txf 0 (.pointer (some ⟨nb, 0, none⟩)) PQ.out HE0.out ?_
            refine txf 1 (.pointer (some ⟨bp, 0, none⟩)) PX.out HE0.out ?_
            refine tx 2 (.pointer (some ⟨bp, 0, none⟩)) HE0.out ?_
            refine tx 3 (.pointer (some ⟨bp, 0, none⟩)) HE0.out ?_
            refine anyX_ready (rs := [4]) (by kernel_rfl) (by simp) ?_
            refine ReadyX.cons rfl (fun K hK => ?_) (ReadyX.nil)
            go_simp
            refine (HN8.out).mono ?_
            rintro e w8 h8
            rcases hq : nameP r7 with g | ⟨s, r8⟩
            · obtain ⟨rfl, tn, bn⟩ := h8.bad_ hq
              have HQB := hid (HQ7.out.symm.trans (thenP_bad hq))
              exact ⟨rfl, ReadsX.fail HQB.out (HT7.out.trans (turn_bp HE0.out tn) (fun _ _ h => .inl h)) bn⟩
            · obtain ⟨v8, rfl, tn, rfl, kn⟩ := h8.good_ hq
              have HT78 := hid (turn_bp HE0.out tn)
              have hs8 := HT78.out.size
              have hbl8 := block_turn HBL7.out HT78.out (by omega)
              have t9 := turn_set w8 nb 1 (sv s)
              have HK9 := hid (kn.turn t9 (by omega) (fun k hk e => by omega))
              have HT9 := hid ((HT7.out.trans HT78.out (fun _ _ h => .inl h)).trans t9 (fun _ _ h => .inr h))
              have HBL9 := hid (heap_setCell_same _ _ 1 _ _ (sv s) hbl8)
              have HBX9 := hid (block_turn (block_turn HBX7.out HT78.out (by omega)) t9 (by omega))
              have HBQ9 := hid (block_turn (block_turn HBQ7.out HT78.out (by omega)) t9 (by omega))
              have hr8 := HR7.out.turn foot_no HT78.out (fun g hg e => by have := (HR7.out.lt g hg).1; omega) (fun g _ hg e => by omega)
              have HR9 := hid (hr8.turn foot_no t9 (fun g hg e => by have := (hr8.lt g hg).1; omega) (fun g _ hg e => by omega))
              have HQ9 : Hid ((thenP (kidsP expr [[58]] ks) fun m => retP (nodeD 10 s 0 t [] [] m)) r8 = Q) := hid ((thenP_good hq).symm.trans HQ7.out)
              obtain ⟨x0, x1, x2, x3, x4, x5, x6, x7, xz⟩ := cells8 hbl8
              clear h8 tn kn hq hbl8 t9 hr8
              refine hK.out _ _ HT78.out ?_
              clear hK K
              try simp only [Act.put, List.getElem_toArray, List.getElem_cons_zero, List.getElem_cons_succ, List.setIfInBounds_toArray, List.set_cons_zero, List.set_cons_succ]
              refine tt 5 (.pointer (some ⟨nb, 0, none⟩)) (fun _ => HT78.out) ?_
              refine tx 6 (.pointer (some ⟨nb, 1, none⟩)) HT78.out ?_
              refine anyX_ready (rs := [7]) (by kernel_rfl) (by simp) ?_
              refine ReadyX.past rfl (by kernel_rfl) (fun K hK => ?_) (ReadyX.nil)
              go_simp
              refine hK.out _ _ ?_
              clear hK K
              try simp only [Act.put, List.getElem_toArray, List.getElem_cons_zero, List.getElem_cons_succ, List.setIfInBounds_toArray, List.set_cons_zero, List.set_cons_succ]
              refine anyX_done (by kernel_rfl) ?_ _
              obtain ⟨W9, hW9⟩ : ∃ W9, w8.setCell ⟨nb, 1, none⟩ (sv s) = W9 := ⟨_, rfl⟩
              have hs9 : w8.heap.size ≤ W9.heap.size := by rw [← hW9]; simp
              rw [hW9] at HK9 HT9 HBL9 HBX9 HBQ9 HR9
              have HW9 := hid hW9
              have hx9 := cells1 HBX9.out
              have hz9 := cells1 HBQ9.out
              have hkl9 := HR9.out.lt
              have hkn := kidsP_len [[]] [] (HKS.out)
              have HLO := hid hkl9
              have HKC := hid (kids_any d expr HEX (W9.alloc (.cells #[.string ⟨#[58]⟩] 9)) bp B nb (w.heap.size + 2) (fun j => w.heap.size + 2 ≤ j) r8 (HK9.out.below (new1 _ _)) (.int .i64 10) (sv s) (.int .i64 0) (.int .i64 (t.line : Nat)) (.int .i64 (t.col : Nat)) (.slice none 0 0) (.slice none 0 0) (.slice A6 ks.length q6) ks (keep_alloc HBL9.out) (HR9.out.turn foot_no (Turn.alloc (fun _ => False) W9 (.cells #[.string ⟨#[58]⟩] 9)) (fun _ _ => id) (fun _ _ _ => id)) (.slice (some ⟨W9.heap.size, 0, none⟩) 1 1) [[58]] ((slG_new W9 #[.string ⟨#[58]⟩] 9 1 1 rfl (by decide)).mono (fun g _ h => ⟨by omega, by omega, fun e => by have := (hkl9 _ e).2; omega⟩)) (by decide) (by simp at hkn; omega) (by omega) (by omega) (by simp; omega) (by omega) (by omega) (fun j hj => by simp at hj; omega))
              clear hW9 hkl9 hkn x0 x1 x2 x3 x4 x5 x6 x7 xz
              rw [HW9.out]
              go_wp2_with fail
              refine (HKC.out).mono ?_
              rintro e w10 h10
              rcases hq : kidsP expr [[58]] ks r8 with g | ⟨ms, r10⟩
              · obtain ⟨rfl, tn, bn⟩ := h10.bad_ hq
                have tn := (after1 tn).1
                have HOB := hid (HT9.out.trans tn (fun i hi e => by rcases e with e | e | e; exact .inl e; exact .inr e; (have := (HLO.out _ e).1; omega)))
                have HQB := hid (HQ9.out.symm.trans (thenP_bad hq))
                have HBN := hid bn
                clear h10 tn bn hq
                go_wp2_with fail
                exact ⟨rfl, ReadsX.fail HQB.out HOB.out HBN.out⟩
              · obtain ⟨rfl, tn, ⟨v10, hb10, hr10⟩, kn⟩ := h10.good_ hq
                have HTA := hid (HT9.out.trans (after1 tn).1 (fun i hi e => by rcases e with e | e | e; exact .inl e; exact .inr e; (have := (HLO.out _ e).1; omega)))
                have HBA := hid hb10
                have HRA := hid hr10
                have HKA := hid kn
                have HQA : Hid (Pr.good (nodeD 10 s 0 t [] [] ms) r10 = Q) := hid ((thenP_good hq).symm.trans HQ9.out)
                clear h10 tn hb10 hr10 kn hq
                go_wp2_with fail
                go_end0
                obtain ⟨xs, y1, y2⟩ := HRA.out.sl foot_no
                exact ReadsX.done HQA.out.symm HTA.out ⟨rfl, _, HBA.out, .mk (SlG.nil _ _ _) .nil (SlG.nil _ _ _) (y1.mono (fun g _ h => by rcases h with h | h <;> omega)) (nos_row (row_mono foot_no (fun g _ h => by rcases h with h | h <;> omega) y2))⟩ HKA.out
      · have HQ5 : Hid ((thenP (sepP (nfieldP expr)) fun l => retP (nodeD 8 [] 0 t [] (l.map (·.1)) (l.map (·.2)))) ts = Q) := hid HQ4.out.symm
        have hmf : ∀ (fn : Fn) (first cap : Array Value) (w : World), (Instr.makeFunc fn first cap).run Tryz.prog w = .ok (.func fn first cap) w := fun _ _ _ _ => rfl
        have tb := Turn.of_below (F := fun _ => False) HB5.out
        have hbx5 := block_turn HBX1.out tb id
        have hbq5 := block_turn HBQ1.out tb id
        have hbl5 := block_turn HB1.out tb id
        have HT5 := hid (HT1.out.trans tb (fun _ _ h => h.elim))
        have hs5 := HB5.out.size
        have hpp : RecP w.heap.size (w.heap.size + 1) nb (w.heap.size + 2) bp w5 := ⟨by omega, by omega, by omega, by omega, by omega, by omega, by omega, by omega⟩
        have hpi : RecI w.heap.size (w.heap.size + 1) nb (w.heap.size + 2) bp t w5 [] := ⟨_, _, hbx5, hbq5, hbl5, OwnS.nil _ _ _, RowG.nil _ _ _ _ _ _⟩
        have hc5 := cells1 hbx5
        have HSV := hid (several_any (nfieldP expr) (Sf.nfield hse) 219 #[.pointer (some ⟨w.heap.size + 1, 0, none⟩), .pointer (some ⟨w.heap.size, 0, none⟩)] (RecI w.heap.size (w.heap.size + 1) nb (w.heap.size + 2) bp t) (fun k => k = bp ∨ k = nb ∨ w.heap.size + 2 ≤ k) d w5 bp B ts (.inl rfl)
          (fun a b l tn h => by obtain ⟨x, y, h⟩ := h; exact ⟨x, y, h.turn0 tn (by omega) (by omega) (by omega) (by omega)⟩) (fun g h => .inr (.inr (by omega)))
          (fun w1 r l hl hw hi hk => record1_any d expr HEX w1 bp B _ _ _ _ t r l hl hk hi (hpp.size hw)) (fun _ => by kernel_rfl) (HK1.out.below HB5.out) hpi)
        clear tb hbx5 hbq5 hbl5 hpi
        go_wp2_with fail
        refine (HSV.out).mono ?_
        rintro e w6 h6
        rcases hq : sepP (nfieldP expr) ts with g | ⟨l, r6⟩
        · obtain ⟨rfl, tn, bn⟩ := h6.bad_ hq
          have HOB := hid (HT5.out.trans tn (fun i hi e => by rcases e with e | e | e; exact .inl e; exact .inr e; omega))
          have HQB := hid (HQ5.out.symm.trans (thenP_bad hq))
          have HBN := hid bn
          clear h6 tn bn hq
          go_wp2_with fail
          exact ⟨rfl, ReadsX.fail HQB.out HOB.out HBN.out⟩
        · obtain ⟨rfl, tn, ⟨x1, x2, hI⟩, kn⟩ := h6.good_ hq
          have HT6 := hid (HT5.out.trans tn (fun i hi e => by rcases e with e | e | e; exact .inl e; exact .inr e; omega))
          have HI6 := hid hI
          have HK6 := hid kn
          have HQ6 : Hid (Pr.good (nodeD 8 [] 0 t [] (l.map (·.1)) (l.map (·.2))) r6 = Q) := hid ((thenP_good hq).symm.trans HQ5.out)
          clear h6 tn hI kn hq
          go_wp2_with fail
          go_end0
          obtain ⟨xs, y1, y2⟩ := HI6.out.kid.sl foot_no
          have kN := SlG.own HI6.out.nam.row (F := fun j => w.heap.size ≤ j) (fun g hg => by have := (HI6.out.nam.lt g hg).1; omega)
          exact ReadsX.done HQ6.out.symm HT6.out ⟨rfl, _, HI6.out.blk, .mk (SlG.nil _ _ _) .nil kN (y1.mono (fun g _ h => by rcases h with h | h; omega; (have := h.1; omega))) (nos_row (row_mono foot_no (fun g _ h => by rcases h with h | h; omega; (have := h.1; omega)) y2))⟩ HK6.out
    · have hkb : ((nextP ts).kind == 1) = false := by simpa using hkd
      have hc : c = false := by have := HC.out; rw [hkb] at this; exact this.symm
      subst hc
      have HQ5 : Hid ((thenP (kidsP expr [[]] []) fun k => thenP (wantP [119, 105, 116, 104]) fun _ => thenP nameP fun s => thenP (kidsP expr [[58]] k) fun m => retP (nodeD 10 s 0 t [] [] m)) ts = Q) := hid HQ4.out.symm
      go_wp2_with fail
      refine (HN3.out).mono ?_
      rintro e w4 ⟨rfl, hb4⟩
      have HB4 := hid (HB3.out.trans (hb4.mono HB3.out.size))
      clear hb4
      have tb := Turn.of_below (F := fun _ => False) HB4.out
      have HBXn := hid (block_turn HBX1.out tb id)
      have HBQn := hid (block_turn HBQ1.out tb id)
      have HBLn := hid (show w4.heap[nb]? = some (.cells #[.int .i64 8, .string ⟨#[]⟩, .int .i64 0, .int .i64 (t.line : Nat), .int .i64 (t.col : Nat), .slice none 0 0, .slice none 0 0, .slice none 0 0] 49 (0, 0)) from block_turn HB1.out tb id)
      have HTn := hid (HT1.out.trans tb (fun _ _ h => h.elim))
      have HKn := hid (HK1.out.below HB4.out)
      have hsn := HB4.out.size
      have hcn := cells1 HBXn.out
      have hqn := cells1 HBQn.out
      obtain ⟨b0, b1, b2, b3, b4, b5, b6, b7, bz⟩ := cells8 HBLn.out
      have t5 := turn_set w4 nb 0 (.int .i64 10)
      have HK5 := hid (HKn.out.turn t5 (by omega) (fun k hk e => by omega))
      have HT5 := hid (HTn.out.trans t5 (fun _ _ h => .inr h))
      have HBL5 := hid (heap_setCell_same _ _ 0 _ _ (.int .i64 10) HBLn.out)
      have HBX5 := hid (block_turn HBXn.out t5 (by omega))
      have HBQ5 := hid (block_turn HBQn.out t5 (by omega))
      have hne1 : ¬ nb = w.heap.size := by omega
      have hne2 : ¬ nb = w.heap.size + 1 := by omega
      have hsc : (w4.setCell ⟨nb, 0, none⟩ (.int .i64 10)).heap.size = w4.heap.size := by simp
      have HKC := hid (kids_any d expr HEX ((w4.setCell ⟨nb, 0, none⟩ (.int .i64 10)).alloc (.cells #[.string ⟨#[]⟩] 9)) bp B nb (w.heap.size + 2) (fun j => w.heap.size + 2 ≤ j) ts (HK5.out.below (new1 _ _)) (.int .i64 10) (.string ⟨#[]⟩) (.int .i64 0) (.int .i64 (t.line : Nat)) (.int .i64 (t.col : Nat)) (.slice none 0 0) (.slice none 0 0) (.slice none 0 0) [] (keep_alloc HBL5.out) (RowG.nil _ _ _ _ _ _) (.slice (some ⟨(w4.setCell ⟨nb, 0, none⟩ (.int .i64 10)).heap.size, 0, none⟩) 1 1) [[]] ((slG_new (w4.setCell ⟨nb, 0, none⟩ (.int .i64 10)) #[.string ⟨#[]⟩] 9 1 1 rfl (by decide)).mono (fun g _ h => ⟨by omega, by omega, fun e => by cases e⟩)) (by decide) (by simp) (by omega) (by omega) (by simp; omega) (by omega) (by omega) (fun j hj => by simp at hj; omega))
      rw [hsc] at HKC
      clear tb t5
      go_wp2_with fail
      refine (HKC.out).mono ?_
      rintro e w6 h6
      rcases hq : kidsP expr [[]] [] ts with g | ⟨ks, r6⟩
      · obtain ⟨rfl, tn, bn⟩ := h6.bad_ hq
        have tn := (after1 tn).1
        have HOB := hid (HT5.out.trans tn (fun i hi e => by rcases e with e | e | e; exact .inl e; exact .inr e; cases e))
        have HQB := hid (HQ5.out.symm.trans (thenP_bad hq))
        have HBN := hid bn
        clear h6 tn bn hq
        go_wp2_with fail
        exact ⟨rfl, ReadsX.fail HQB.out HOB.out HBN.out⟩
      · obtain ⟨rfl, tn, ⟨v6, hb6, hr6⟩, kn⟩ := h6.good_ hq
        have tk := (after1 tn).1
        have hs6 := tk.size
        have HT6 := hid (HT5.out.trans tk (fun i hi e => by rcases e with e | e | e; exact .inl e; exact .inr e; cases e))
        have HBX6 := hid (block_turn HBX5.out tk (fun e => by rcases e with e | e | e; omega; omega; cases e))
        have HBQ6 := hid (block_turn HBQ5.out tk (fun e => by rcases e with e | e | e; omega; omega; cases e))
        have HBL6 := hid hb6
        have HR6 := hid hr6
        have HK6 := hid kn
        have HKS := hid hq
        have HQ6 : Hid ((thenP (wantP [119, 105, 116, 104]) fun _ => thenP nameP fun s => thenP (kidsP expr [[58]] ks) fun m => retP (nodeD 10 s 0 t [] [] m)) r6 = Q) := hid ((thenP_good hq).symm.trans HQ5.out)
        have hc6 := cells1 HBX6.out
        have HN6 := hid (want_lit w6 bp B r6 d kn [119, 105, 116, 104] 9 w6.heap.size)
        clear h6 tn tk hb6 hr6 kn hq
        go_wp2_with fail
        refine (HN6.out).mono ?_
        rintro e w7 h7
        rcases hq : wantP [119, 105, 116, 104] r6 with g | ⟨u, r7⟩
        · obtain ⟨rfl, tn, bn⟩ := h7.bad_ hq
          have HOB := hid (HT6.out.trans tn (fun _ _ h => .inl h))
          have HQB := hid (HQ6.out.symm.trans (thenP_bad hq))
          have HBN := hid bn
          clear h7 tn bn hq
          go_wp2_with fail
          exact ⟨rfl, ReadsX.fail HQB.out HOB.out HBN.out⟩
        · obtain ⟨v7, rfl, tn, -, kn⟩ := h7.good_ hq
          have HT7 := hid (HT6.out.trans tn (fun _ _ h => .inl h))
          have HK7 := hid kn
          have hs7 := tn.size
          have HBX7 := hid (block_turn HBX6.out tn (by omega))
          have HBQ7 := hid (block_turn HBQ6.out tn (by omega))
          have hbl7 := block_turn HBL6.out tn (by omega)
          have HBL7 := hid hbl7
          have HR7 := hid (HR6.out.turn foot_no tn (fun g hg e => by have := (HR6.out.lt g hg).1; omega) (fun g _ hg e => by omega))
          obtain ⟨A6, q6, hv6, _, _⟩ := HR6.out.shape
          subst hv6
          have HQ7 : Hid ((thenP nameP fun s => thenP (kidsP expr [[58]] ks) fun m => retP (nodeD 10 s 0 t [] [] m)) r7 = Q) := hid ((thenP_good hq).symm.trans HQ6.out)
          have hx7 := cells1 HBX7.out
          have hz7 := cells1 HBQ7.out
          have PX := hid (fun (w' : World) (h : Turn (fun j => j = bp) w7 w') => tcell hx7 h (by omega))
          have PQ := hid (fun (w' : World) (h : Turn (fun j => j = bp) w7 w') => tcell hz7 h (by omega))
          have HE0 : Hid (Turn (fun j => j = bp) w7 w7.drew) := hid ⟨rfl, rfl, rfl, Nat.le_refl _, fun _ _ _ => rfl⟩
          have HN8 := hid (pname_any w7.drew bp B r7 d kn)
          clear h7 tn kn hq hbl7 hx7 hz7
          go_wp2_with fail
          refine region_x (S := fun w' => Turn (fun j => j = bp) w7 w') (x := 7) (by kernel_rfl) ?_
          try simp only [Act.put, List.getElem_toArray, List.getElem_cons_zero, List.getElem_cons_succ, List.setIfInBounds_toArray, List.set_cons_zero, List.set_cons_succ]
          refine txf 0 (.pointer (some ⟨nb, 0, none⟩)) PQ.out HE0.out ?_
          refine txf 1 (.pointer (some ⟨bp, 0, none⟩)) PX.out HE0.out ?_
          refine tx 2 (.pointer (some ⟨bp, 0, none⟩)) HE0.out ?_
          refine tx 3 (.pointer (some ⟨bp, 0, none⟩)) HE0.out ?_
          refine anyX_ready (rs := [4]) (by kernel_rfl) (by simp) ?_
          refine ReadyX.cons rfl (fun K hK => ?_) (ReadyX.nil)
          go_simp
          refine (HN8.out).mono ?_
          rintro e w8 h8
          rcases hq : nameP r7 with g | ⟨s, r8⟩
          · obtain ⟨rfl, tn, bn⟩ := h8.bad_ hq
            have HQB := hid (HQ7.out.symm.trans (thenP_bad hq))
            exact ⟨rfl, ReadsX.fail HQB.out (HT7.out.trans (turn_bp HE0.out tn) (fun _ _ h => .inl h)) bn⟩
          · obtain ⟨v8, rfl, tn, rfl, kn⟩ := h8.good_ hq
            have HT78 := hid (turn_bp HE0.out tn)
            have hs8 := HT78.out.size
            have hbl8 := block_turn HBL7.out HT78.out (by omega)
            have t9 := turn_set w8 nb 1 (sv s)
            have HK9 := hid (kn.turn t9 (by omega) (fun k hk e => by omega))
            have HT9 := hid ((HT7.out.trans HT78.out (fun _ _ h => .inl h)).trans t9 (fun _ _ h => .inr h))
            have HBL9 := hid (heap_setCell_same _ _ 1 _ _ (sv s) hbl8)
            have HBX9 := hid (block_turn (block_turn HBX7.out HT78.out (by omega)) t9 (by omega))
            have HBQ9 := hid (block_turn (block_turn HBQ7.out HT78.out (by omega)) t9 (by omega))
            have hr8 := HR7.out.turn foot_no HT78.out (fun g hg e => by have := (HR7.out.lt g hg).1; omega) (fun g _ hg e => by omega)
            have HR9 := hid (hr8.turn foot_no t9 (fun g hg e => by have := (hr8.lt g hg).1; omega) (fun g _ hg e => by omega))
            have HQ9 : Hid ((thenP (kidsP expr [[58]] ks) fun m => retP (nodeD 10 s 0 t [] [] m)) r8 = Q) := hid ((thenP_good hq).symm.trans HQ7.out)
            obtain ⟨x0, x1, x2, x3, x4, x5, x6, x7, xz⟩ := cells8 hbl8
            clear h8 tn kn hq hbl8 t9 hr8
            refine hK.out _ _ HT78.out ?_
            clear hK K
            try simp only [Act.put, List.getElem_toArray, List.getElem_cons_zero, List.getElem_cons_succ, List.setIfInBounds_toArray, List.set_cons_zero, List.set_cons_succ]
            refine tt 5 (.pointer (some ⟨nb, 0, none⟩)) (fun _ => HT78.out) ?_
            refine tx 6 (.pointer (some ⟨nb, 1, none⟩)) HT78.out ?_
            refine anyX_ready (rs := [7]) (by kernel_rfl) (by simp) ?_
            refine ReadyX.past rfl (by kernel_rfl) (fun K hK => ?_) (ReadyX.nil)
            go_simp
            refine hK.out _ _ ?_
            clear hK K
            try simp only [Act.put, List.getElem_toArray, List.getElem_cons_zero, List.getElem_cons_succ, List.setIfInBounds_toArray, List.set_cons_zero, List.set_cons_succ]
            refine anyX_done (by kernel_rfl) ?_ _
            obtain ⟨W9, hW9⟩ : ∃ W9, w8.setCell ⟨nb, 1, none⟩ (sv s) = W9 := ⟨_, rfl⟩
            have hs9 : w8.heap.size ≤ W9.heap.size := by rw [← hW9]; simp
            rw [hW9] at HK9 HT9 HBL9 HBX9 HBQ9 HR9
            have HW9 := hid hW9
            have hx9 := cells1 HBX9.out
            have hz9 := cells1 HBQ9.out
            have hkl9 := HR9.out.lt
            have hkn := kidsP_len [[]] [] (HKS.out)
            have HLO := hid hkl9
            have HKC := hid (kids_any d expr HEX (W9.alloc (.cells #[.string ⟨#[58]⟩] 9)) bp B nb (w.heap.size + 2) (fun j => w.heap.size + 2 ≤ j) r8 (HK9.out.below (new1 _ _)) (.int .i64 10) (sv s) (.int .i64 0) (.int .i64 (t.line : Nat)) (.int .i64 (t.col : Nat)) (.slice none 0 0) (.slice none 0 0) (.slice A6 ks.length q6) ks (keep_alloc HBL9.out) (HR9.out.turn foot_no (Turn.alloc (fun _ => False) W9 (.cells #[.string ⟨#[58]⟩] 9)) (fun _ _ => id) (fun _ _ _ => id)) (.slice (some ⟨W9.heap.size, 0, none⟩) 1 1) [[58]] ((slG_new W9 #[.string ⟨#[58]⟩] 9 1 1 rfl (by decide)).mono (fun g _ h => ⟨by omega, by omega, fun e => by have := (hkl9 _ e).2; omega⟩)) (by decide) (by simp at hkn; omega) (by omega) (by omega) (by simp; omega) (by omega) (by omega) (fun j hj => by simp at hj; omega))
            clear hW9 hkl9 hkn x0 x1 x2 x3 x4 x5 x6 x7 xz
            rw [HW9.out]
            go_wp2_with fail
            refine (HKC.out).mono ?_
            rintro e w10 h10
            rcases hq : kidsP expr [[58]] ks r8 with g | ⟨ms, r10⟩
            · obtain ⟨rfl, tn, bn⟩ := h10.bad_ hq
              have tn := (after1 tn).1
              have HOB := hid (HT9.out.trans tn (fun i hi e => by rcases e with e | e | e; exact .inl e; exact .inr e; (have := (HLO.out _ e).1; omega)))
              have HQB := hid (HQ9.out.symm.trans (thenP_bad hq))
              have HBN := hid bn
              clear h10 tn bn hq
              go_wp2_with fail
              exact ⟨rfl, ReadsX.fail HQB.out HOB.out HBN.out⟩
            · obtain ⟨rfl, tn, ⟨v10, hb10, hr10⟩, kn⟩ := h10.good_ hq
              have HTA := hid (HT9.out.trans (after1 tn).1 (fun i hi e => by rcases e with e | e | e; exact .inl e; exact .inr e; (have := (HLO.out _ e).1; omega)))
              have HBA := hid hb10
              have HRA := hid hr10
              have HKA := hid kn
              have HQA : Hid (Pr.good (nodeD 10 s 0 t [] [] ms) r10 = Q) := hid ((thenP_good hq).symm.trans HQ9.out)
              clear h10 tn hb10 hr10 kn hq
              go_wp2_with fail
              go_end0
              obtain ⟨xs, y1, y2⟩ := HRA.out.sl foot_no
              exact ReadsX.done HQA.out.symm HTA.out ⟨rfl, _, HBA.out, .mk (SlG.nil _ _ _) .nil (SlG.nil _ _ _) (y1.mono (fun g _ h => by rcases h with h | h <;> omega)) (nos_row (row_mono foot_no (fun g _ h => by rcases h with h | h <;> omega) y2))⟩ HKA.out
  · have HQ3 : Hid (Q = Pr.good (nodeD 8 [] 0 t [] [] []) ts) := hid (HQ.out.symm.trans (by unfold recP thenP seenP; simp only [hq, if_true]; rfl))
    have HBL := hid (block_turn HB1.out (Turn.of_below (F := fun _ => False) HB3.out) id)
    go_wp2_with fail
    go_end0
    exact ReadsX.done HQ3.out (HT1.out.trans (Turn.of_below (F := fun k => k = bp ∨ k = nb) HB3.out) (fun _ _ h => h)) ⟨rfl, _, HBL.out, .mk (SlG.nil _ _ _) .nil (SlG.nil _ _ _) (SlG.nil _ _ _) .nil⟩ (HK1.out.below HB3.out)
end Go.Proofs.YtmbppnbekkbibaaGreatDoor
end
