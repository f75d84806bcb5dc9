/- Encode. -/
import Derived.Test.YtpnggkkfoipfhaaBS
set_option linter.unusedVariables false
namespace Go.Proofs.Ytpnggkkfoipfhaa
open Go.RowKit

theorem shapes_keep {w w' : World} {B : Nat} {x : List Value} {l : List (List Bt)} (h : ShapesR w B x l) (hb : Below B w w') : ShapesR w' B x l :=
  ⟨h.1, fun i hi => by obtain ⟨v, a, b⟩ := h.2 i hi; exact ⟨v, a, Ss.below b hb⟩⟩
theorem procs_keep {w w' : World} {B : Nat} {x : List Value} {l : List ProcD} (h : ProcsR w B x l) (hb : Below B w w') : ProcsR w' B x l :=
  ⟨h.1, fun i hi => by obtain ⟨v, a, b⟩ := h.2 i hi; exact ⟨v, a, b.below hb⟩⟩
theorem own_lift {w : World} {base : Nat} {e : TypeId} {k n : Nat} {v : Value} {xs : List Value} (h : w.ownsRow 0 e k v n xs) (hb : ∀ g, v.ownBlock = some g → base ≤ g) : w.ownsRow base e k v n xs := by
  refine ⟨h.1, ?_⟩
  rcases h.2 with h2 | ⟨g, cap, cur, hv, _, r⟩
  · exact .inl h2
  · exact .inr ⟨g, cap, cur, hv, hb g (by subst hv; rfl), r⟩

set_option maxRecDepth 100000 in
set_option maxHeartbeats 4000000 in
theorem encode_true (w : World) (x : List Value) (is : List Int) (ss : List Bt) (hs : List (List Bt)) (cs : List CoD) (ps : List ProcD) (mn : Int) (hr : CodeR w w.heap.size x ⟨is, ss, hs, cs, ps, mn, true⟩) (hok : CodeOk ⟨is, ss, hs, cs, ps, mn, true⟩) (hlen : (codeE ⟨is, ss, hs, cs, ps, mn, true⟩).length + 100 ≤ 140737488355000) :
    Calls Try.prog 10 #[.agg x.toArray] w fun e w' => ∃ v', e = .returned v' ∧ OwnB w' w.heap.size 5 v' (codeE ⟨is, ss, hs, cs, ps, mn, true⟩) ∧ Below w.heap.size w w' := by
  have hce := codeE_eq ⟨is, ss, hs, cs, ps, mn, true⟩
  have hcl : (codeE ⟨is, ss, hs, cs, ps, mn, true⟩).length = (putL (1 : Int)).length + ((putL mn).length + ((listE putL is).length + ((listE textE ss).length + ((listE (listE textE) hs).length + ((listE coE cs).length + (listE procE ps).length))))) := by
    rw [codeE_eq]; unfold mergeE; simp only [List.length_append]; rfl
  obtain ⟨ok1, ok2, ok3, ok4, ok5, ok6⟩ := hok
  simp only at ok1 ok2 ok3 ok4 ok5 ok6
  have hmf : ∀ (fn : Fn) (first cap : Array Value) (w : World), (Instr.makeFunc fn first cap).run Try.prog w = .ok (.func fn first cap) w := fun _ _ _ _ => rfl
  have hp1 := putL_some (1 : Int)
  have hp2 := putL_some mn
  have hm2 : ([(1 : Int), mn].flatMap putL).length = (putL (1 : Int)).length + (putL mn).length := by simp
  obtain ⟨vi, vs, vh, vc, vp, xh, xc, xp, rfl, h1, h2, h3, hh, h4, hc, h5, hp⟩ := hr
  simp only at h1 h2 hh hc hp
  have H1 := hid h1
  have H2 := hid h2
  have H3 := hid h3
  have H4 := hid h4
  have H5 := hid h5
  have HH := hid hh
  have HC := hid hc
  have HP := hid hp
  obtain ⟨A1, n1, c1, rfl, _⟩ := h1
  obtain ⟨A2, n2, c2, rfl, _⟩ := h2
  obtain ⟨A3, n3, c3, rfl, _⟩ := h3
  obtain ⟨A4, n4, c4, rfl, _⟩ := h4
  obtain ⟨A5, n5, c5, rfl, _⟩ := h5
  clear hh hc hp
  have hs1 : (w.alloc (.cells #[.slice A1 n1 c1, .slice A2 n2 c2, .slice A3 n3 c3, .slice A4 n4 c4, .slice A5 n5 c5, .int .i64 mn, .bool true] 28)).heap.size = w.heap.size + 1 := by simp
  have hs2 : ((w.alloc (.cells #[.slice A1 n1 c1, .slice A2 n2 c2, .slice A3 n3 c3, .slice A4 n4 c4, .slice A5 n5 c5, .int .i64 mn, .bool true] 28)).alloc (.cells #[.slice none 0 0] 50)).heap.size = w.heap.size + 2 := by simp
  have hb1 : Below w.heap.size w (w.alloc (.cells #[.slice A1 n1 c1, .slice A2 n2 c2, .slice A3 n3 c3, .slice A4 n4 c4, .slice A5 n5 c5, .int .i64 mn, .bool true] 28)) := (Below.refl _ _).alloc (Nat.le_refl _) _
  have hb2 := hb1.alloc (by simp) (.cells #[.slice none 0 0] 50)
  have hb3 := hb2.alloc (by rw [hs2]; omega) (.cells #[.int .i64 1, .int .i64 mn] 3)
  have hx1 := heap_alloc_new w (.cells #[.slice A1 n1 c1, .slice A2 n2 c2, .slice A3 n3 c3, .slice A4 n4 c4, .slice A5 n5 c5, .int .i64 mn, .bool true] 28)
  have hx2 := heap_alloc_new (w.alloc (.cells #[.slice A1 n1 c1, .slice A2 n2 c2, .slice A3 n3 c3, .slice A4 n4 c4, .slice A5 n5 c5, .int .i64 mn, .bool true] 28)) (.cells #[.slice none 0 0] 50)
  rw [hs1] at hx2
  have hy1 := (((Below.refl _ _).alloc (Nat.le_refl _) (.cells #[.slice none 0 0] 50) : Below (w.alloc (.cells #[.slice A1 n1 c1, .slice A2 n2 c2, .slice A3 n3 c3, .slice A4 n4 c4, .slice A5 n5 c5, .int .i64 mn, .bool true] 28)).heap.size _ _).block w.heap.size (block_lt hx1)).trans hx1
  have hW : WrAt ((w.alloc (.cells #[.slice A1 n1 c1, .slice A2 n2 c2, .slice A3 n3 c3, .slice A4 n4 c4, .slice A5 n5 c5, .int .i64 mn, .bool true] 28)).alloc (.cells #[.slice none 0 0] 50)) w.heap.size (fun k => k = w.heap.size + 1) (w.heap.size + 1) [] :=
    ⟨.slice none 0 0, hx2, rfl, ⟨0, World.ownsRow_nil _ _ _ _⟩, fun g hg => (by cases hg), fun k hk => (by rw [hs2]; omega)⟩
  have hba : Below ((w.alloc (.cells #[.slice A1 n1 c1, .slice A2 n2 c2, .slice A3 n3 c3, .slice A4 n4 c4, .slice A5 n5 c5, .int .i64 mn, .bool true] 28)).alloc (.cells #[.slice none 0 0] 50)).heap.size _ (((w.alloc (.cells #[.slice A1 n1 c1, .slice A2 n2 c2, .slice A3 n3 c3, .slice A4 n4 c4, .slice A5 n5 c5, .int .i64 mn, .bool true] 28)).alloc (.cells #[.slice none 0 0] 50)).alloc (.cells #[.int .i64 1, .int .i64 mn] 3)) := (Below.refl _ _).alloc (Nat.le_refl _) _
  have hsl := sl_new ((w.alloc (.cells #[.slice A1 n1 c1, .slice A2 n2 c2, .slice A3 n3 c3, .slice A4 n4 c4, .slice A5 n5 c5, .int .i64 mn, .bool true] 28)).alloc (.cells #[.slice none 0 0] 50)) #[.int .i64 1, .int .i64 mn] 3 1 2 rfl (by decide)
  rw [hs2] at hsl
  have hN := hid (num_any (((w.alloc (.cells #[.slice A1 n1 c1, .slice A2 n2 c2, .slice A3 n3 c3, .slice A4 n4 c4, .slice A5 n5 c5, .int .i64 mn, .bool true] 28)).alloc (.cells #[.slice none 0 0] 50)).alloc (.cells #[.int .i64 1, .int .i64 mn] 3)) w.heap.size (fun k => k = w.heap.size + 1) (w.heap.size + 1) [] (.slice (some ⟨w.heap.size + 2, 0, none⟩) 2 2) [1, mn] (hW.below hba) (by simpa [intsV] using hsl) (fun g hg h => by injection hg with hg; have h1 : g = w.heap.size + 1 := h; have h2 : w.heap.size + 2 = g := hg; omega) (by
    intro y hy
    simp only [List.mem_cons, List.not_mem_nil, or_false] at hy
    rcases hy with rfl | rfl
    · exact in64_small _ (by omega)
    · exact ok6) (by simp only [List.length_cons, List.length_nil]; omega))
  have hz := (hba.block w.heap.size (block_lt hy1)).trans hy1
  have HW1 := hid (hW.below hba)
  have HZ := hid hz
  have HBW := hid hb3
  have HNZ : Hid (¬ (w.heap.size = w.heap.size + 1)) := hid (by omega)
  clear hsl hx1 hx2 hy1 hW hba hb1 hb2 hb3 hz
  go_enter Try.func10, Try.ntmps10
  go_wp2_with fail
  refine hN.out.mono ?_
  rintro e w2 ⟨rfl, hto⟩
  have HTO1 := hid hto
  clear hto hN
  obtain ⟨F2, hw2, t2, n2_⟩ := HTO1.out
  have hq2 := block_turn HZ.out t2 (fun h => by have := HNZ.out; exact this h)
  have j2 : w2.cell? ⟨w.heap.size, 0, none⟩ = some (.slice A1 n1 c1) := (cell_of_row _ _ _ _ _ (0, 0) hq2).trans rfl
  have hbel2 := HBW.out.trans (WrTo.bel HW1.out HTO1.out)
  have HL2 := hid (list_int_any w2 w.heap.size F2 (w.heap.size + 1) (([] : Bt) ++ [(1 : Int), mn].flatMap putL) (.slice A1 n1 c1) is hw2 (H1.out.below hbel2) ok1.1 ok1.2 (by simp only [List.length_append, List.length_nil]; omega))
  clear hw2 hq2
  go_wp2_with fail
  refine HL2.out.mono ?_
  rintro e w3 ⟨rfl, hto⟩
  have HTO2 := hid (WrTo.more t2 n2_ hto)
  clear hto HL2 hbel2
  obtain ⟨F3, hw3, t3, n3_⟩ := HTO2.out
  have hq3 := block_turn HZ.out t3 (fun h => by have := HNZ.out; exact this h)
  have j3 : w3.cell? ⟨w.heap.size, 1, none⟩ = some (.slice A2 n2 c2) := (cell_of_row _ _ _ _ _ (0, 0) hq3).trans rfl
  have hbel3 := HBW.out.trans (WrTo.bel HW1.out HTO2.out)
  have HL3 := hid (texts_any w3 w.heap.size F3 (w.heap.size + 1) ((([] : Bt) ++ [(1 : Int), mn].flatMap putL) ++ listE putL is) (.slice A2 n2 c2) ss hw3 (Sl.below H2.out hbel3) ok2 (by simp only [List.length_append, List.length_nil]; omega))
  clear hw3 hq3
  go_wp2_with fail
  refine HL3.out.mono ?_
  rintro e w4 ⟨rfl, hto⟩
  have HTO3 := hid (WrTo.more t3 n3_ hto)
  clear hto HL3 hbel3
  obtain ⟨F4, hw4, t4, n4_⟩ := HTO3.out
  have hq4 := block_turn HZ.out t4 (fun h => by have := HNZ.out; exact this h)
  have j4 : w4.cell? ⟨w.heap.size, 2, none⟩ = some (.slice A3 n3 c3) := (cell_of_row _ _ _ _ _ (0, 0) hq4).trans rfl
  have hbel4 := HBW.out.trans (WrTo.bel HW1.out HTO3.out)
  have HL4 := hid (list_texts_any w4 w.heap.size F4 (w.heap.size + 1) (((([] : Bt) ++ [(1 : Int), mn].flatMap putL) ++ listE putL is) ++ listE textE ss) (.slice A3 n3 c3) hs hw4 xh (shapes_keep HH.out hbel4) (H3.out.below hbel4) ok3.1 ok3.2 (by simp only [List.length_append, List.length_nil]; omega))
  clear hw4 hq4
  go_wp2_with fail
  refine HL4.out.mono ?_
  rintro e w5 ⟨rfl, hto⟩
  have HTO4 := hid (WrTo.more t4 n4_ hto)
  clear hto HL4 hbel4
  obtain ⟨F5, hw5, t5, n5_⟩ := HTO4.out
  have hq5 := block_turn HZ.out t5 (fun h => by have := HNZ.out; exact this h)
  have j5 : w5.cell? ⟨w.heap.size, 3, none⟩ = some (.slice A4 n4 c4) := (cell_of_row _ _ _ _ _ (0, 0) hq5).trans rfl
  have hbel5 := HBW.out.trans (WrTo.bel HW1.out HTO4.out)
  have HL5 := hid (list_co_any w5 w.heap.size F5 (w.heap.size + 1) ((((([] : Bt) ++ [(1 : Int), mn].flatMap putL) ++ listE putL is) ++ listE textE ss) ++ listE (listE textE) hs) (.slice A4 n4 c4) cs hw5 xc (HC.out.keep hbel5) (fun x _ => co_any x) (H4.out.below hbel5) ok4.1 ok4.2 (by simp only [List.length_append, List.length_nil]; omega))
  clear hw5 hq5
  go_wp2_with fail
  refine HL5.out.mono ?_
  rintro e w6 ⟨rfl, hto⟩
  have HTO5 := hid (WrTo.more t5 n5_ hto)
  clear hto HL5 hbel5
  obtain ⟨F6, hw6, t6, n6_⟩ := HTO5.out
  have hq6 := block_turn HZ.out t6 (fun h => by have := HNZ.out; exact this h)
  have j6 : w6.cell? ⟨w.heap.size, 4, none⟩ = some (.slice A5 n5 c5) := (cell_of_row _ _ _ _ _ (0, 0) hq6).trans rfl
  have hbel6 := HBW.out.trans (WrTo.bel HW1.out HTO5.out)
  have HL6 := hid (list_proc_any w6 w.heap.size F6 (w.heap.size + 1) (((((([] : Bt) ++ [(1 : Int), mn].flatMap putL) ++ listE putL is) ++ listE textE ss) ++ listE (listE textE) hs) ++ listE coE cs) (.slice A5 n5 c5) ps hw6 xp (procs_keep HP.out hbel6) (H5.out.below hbel6) ok5.1 ok5.2 (by simp only [List.length_append, List.length_nil]; omega))
  clear hw6 hq6
  go_wp2_with fail
  refine HL6.out.mono ?_
  rintro e w7 ⟨rfl, hto⟩
  have HTO6 := hid (WrTo.more t6 n6_ hto)
  clear hto HL6 hbel6
  obtain ⟨F7, ⟨v7, g1, g2, g3, g4, g5⟩, t7, n7_⟩ := HTO6.out
  have z1 : w7.cell? ⟨w.heap.size + 1, 0, none⟩ = some v7 := (cell_of_row _ _ _ _ _ (0, 0) g1).trans rfl
  have hfin := HBW.out.trans (WrTo.bel HW1.out HTO6.out)
  go_wp2_with fail
  go_ret
  refine ⟨v7, rfl, ?_, hfin⟩
  obtain ⟨n, g3⟩ := g3
  have hbb : codeE ⟨is, ss, hs, cs, ps, mn, true⟩ = ((((((([] : Bt) ++ [(1 : Int), mn].flatMap putL) ++ listE putL is) ++ listE textE ss) ++ listE (listE textE) hs) ++ listE coE cs) ++ listE procE ps) := by
    rw [codeE_eq]; unfold mergeE; simp
  rw [hbb]
  exact ⟨n, own_lift g3 (fun g hg => (g5 g (g4 g hg).1).1)⟩

set_option maxRecDepth 100000 in
set_option maxHeartbeats 4000000 in
theorem encode_false (w : World) (x : List Value) (is : List Int) (ss : List Bt) (hs : List (List Bt)) (cs : List CoD) (ps : List ProcD) (mn : Int) (hr : CodeR w w.heap.size x ⟨is, ss, hs, cs, ps, mn, false⟩) (hok : CodeOk ⟨is, ss, hs, cs, ps, mn, false⟩) (hlen : (codeE ⟨is, ss, hs, cs, ps, mn, false⟩).length + 100 ≤ 140737488355000) :
    Calls Try.prog 10 #[.agg x.toArray] w fun e w' => ∃ v', e = .returned v' ∧ OwnB w' w.heap.size 5 v' (codeE ⟨is, ss, hs, cs, ps, mn, false⟩) ∧ Below w.heap.size w w' := by
  have hce := codeE_eq ⟨is, ss, hs, cs, ps, mn, false⟩
  have hcl : (codeE ⟨is, ss, hs, cs, ps, mn, false⟩).length = (putL (0 : Int)).length + ((putL mn).length + ((listE putL is).length + ((listE textE ss).length + ((listE (listE textE) hs).length + ((listE coE cs).length + (listE procE ps).length))))) := by
    rw [codeE_eq]; unfold mergeE; simp only [List.length_append]; rfl
  obtain ⟨ok1, ok2, ok3, ok4, ok5, ok6⟩ := hok
  simp only at ok1 ok2 ok3 ok4 ok5 ok6
  have hmf : ∀ (fn : Fn) (first cap : Array Value) (w : World), (Instr.makeFunc fn first cap).run Try.prog w = .ok (.func fn first cap) w := fun _ _ _ _ => rfl
  have hp1 := putL_some (0 : Int)
  have hp2 := putL_some mn
  have hm2 : ([(0 : Int), mn].flatMap putL).length = (putL (0 : Int)).length + (putL mn).length := by simp
  obtain ⟨vi, vs, vh, vc, vp, xh, xc, xp, rfl, h1, h2, h3, hh, h4, hc, h5, hp⟩ := hr
  simp only at h1 h2 hh hc hp
  have H1 := hid h1
  have H2 := hid h2
  have H3 := hid h3
  have H4 := hid h4
  have H5 := hid h5
  have HH := hid hh
  have HC := hid hc
  have HP := hid hp
  obtain ⟨A1, n1, c1, rfl, _⟩ := h1
  obtain ⟨A2, n2, c2, rfl, _⟩ := h2
  obtain ⟨A3, n3, c3, rfl, _⟩ := h3
  obtain ⟨A4, n4, c4, rfl, _⟩ := h4
  obtain ⟨A5, n5, c5, rfl, _⟩ := h5
  clear hh hc hp
  have hs1 : (w.alloc (.cells #[.slice A1 n1 c1, .slice A2 n2 c2, .slice A3 n3 c3, .slice A4 n4 c4, .slice A5 n5 c5, .int .i64 mn, .bool false] 28)).heap.size = w.heap.size + 1 := by simp
  have hs2 : ((w.alloc (.cells #[.slice A1 n1 c1, .slice A2 n2 c2, .slice A3 n3 c3, .slice A4 n4 c4, .slice A5 n5 c5, .int .i64 mn, .bool false] 28)).alloc (.cells #[.slice none 0 0] 50)).heap.size = w.heap.size + 2 := by simp
  have hb1 : Below w.heap.size w (w.alloc (.cells #[.slice A1 n1 c1, .slice A2 n2 c2, .slice A3 n3 c3, .slice A4 n4 c4, .slice A5 n5 c5, .int .i64 mn, .bool false] 28)) := (Below.refl _ _).alloc (Nat.le_refl _) _
  have hb2 := hb1.alloc (by simp) (.cells #[.slice none 0 0] 50)
  have hb3 := hb2.alloc (by rw [hs2]; omega) (.cells #[.int .i64 0, .int .i64 mn] 3)
  have hx1 := heap_alloc_new w (.cells #[.slice A1 n1 c1, .slice A2 n2 c2, .slice A3 n3 c3, .slice A4 n4 c4, .slice A5 n5 c5, .int .i64 mn, .bool false] 28)
  have hx2 := heap_alloc_new (w.alloc (.cells #[.slice A1 n1 c1, .slice A2 n2 c2, .slice A3 n3 c3, .slice A4 n4 c4, .slice A5 n5 c5, .int .i64 mn, .bool false] 28)) (.cells #[.slice none 0 0] 50)
  rw [hs1] at hx2
  have hy1 := (((Below.refl _ _).alloc (Nat.le_refl _) (.cells #[.slice none 0 0] 50) : Below (w.alloc (.cells #[.slice A1 n1 c1, .slice A2 n2 c2, .slice A3 n3 c3, .slice A4 n4 c4, .slice A5 n5 c5, .int .i64 mn, .bool false] 28)).heap.size _ _).block w.heap.size (block_lt hx1)).trans hx1
  have hW : WrAt ((w.alloc (.cells #[.slice A1 n1 c1, .slice A2 n2 c2, .slice A3 n3 c3, .slice A4 n4 c4, .slice A5 n5 c5, .int .i64 mn, .bool false] 28)).alloc (.cells #[.slice none 0 0] 50)) w.heap.size (fun k => k = w.heap.size + 1) (w.heap.size + 1) [] :=
    ⟨.slice none 0 0, hx2, rfl, ⟨0, World.ownsRow_nil _ _ _ _⟩, fun g hg => (by cases hg), fun k hk => (by rw [hs2]; omega)⟩
  have hba : Below ((w.alloc (.cells #[.slice A1 n1 c1, .slice A2 n2 c2, .slice A3 n3 c3, .slice A4 n4 c4, .slice A5 n5 c5, .int .i64 mn, .bool false] 28)).alloc (.cells #[.slice none 0 0] 50)).heap.size _ (((w.alloc (.cells #[.slice A1 n1 c1, .slice A2 n2 c2, .slice A3 n3 c3, .slice A4 n4 c4, .slice A5 n5 c5, .int .i64 mn, .bool false] 28)).alloc (.cells #[.slice none 0 0] 50)).alloc (.cells #[.int .i64 0, .int .i64 mn] 3)) := (Below.refl _ _).alloc (Nat.le_refl _) _
  have hsl := sl_new ((w.alloc (.cells #[.slice A1 n1 c1, .slice A2 n2 c2, .slice A3 n3 c3, .slice A4 n4 c4, .slice A5 n5 c5, .int .i64 mn, .bool false] 28)).alloc (.cells #[.slice none 0 0] 50)) #[.int .i64 0, .int .i64 mn] 3 1 2 rfl (by decide)
  rw [hs2] at hsl
  have hN := hid (num_any (((w.alloc (.cells #[.slice A1 n1 c1, .slice A2 n2 c2, .slice A3 n3 c3, .slice A4 n4 c4, .slice A5 n5 c5, .int .i64 mn, .bool false] 28)).alloc (.cells #[.slice none 0 0] 50)).alloc (.cells #[.int .i64 0, .int .i64 mn] 3)) w.heap.size (fun k => k = w.heap.size + 1) (w.heap.size + 1) [] (.slice (some ⟨w.heap.size + 2, 0, none⟩) 2 2) [0, mn] (hW.below hba) (by simpa [intsV] using hsl) (fun g hg h => by injection hg with hg; have h1 : g = w.heap.size + 1 := h; have h2 : w.heap.size + 2 = g := hg; omega) (by
    intro y hy
    simp only [List.mem_cons, List.not_mem_nil, or_false] at hy
    rcases hy with rfl | rfl
    · exact in64_small _ (by omega)
    · exact ok6) (by simp only [List.length_cons, List.length_nil]; omega))
  have hz := (hba.block w.heap.size (block_lt hy1)).trans hy1
  have HW1 := hid (hW.below hba)
  have HZ := hid hz
  have HBW := hid hb3
  have HNZ : Hid (¬ (w.heap.size = w.heap.size + 1)) := hid (by omega)
  clear hsl hx1 hx2 hy1 hW hba hb1 hb2 hb3 hz
  go_enter Try.func10, Try.ntmps10
  go_wp2_with fail
  refine hN.out.mono ?_
  rintro e w2 ⟨rfl, hto⟩
  have HTO1 := hid hto
  clear hto hN
  obtain ⟨F2, hw2, t2, n2_⟩ := HTO1.out
  have hq2 := block_turn HZ.out t2 (fun h => by have := HNZ.out; exact this h)
  have j2 : w2.cell? ⟨w.heap.size, 0, none⟩ = some (.slice A1 n1 c1) := (cell_of_row _ _ _ _ _ (0, 0) hq2).trans rfl
  have hbel2 := HBW.out.trans (WrTo.bel HW1.out HTO1.out)
  have HL2 := hid (list_int_any w2 w.heap.size F2 (w.heap.size + 1) (([] : Bt) ++ [(0 : Int), mn].flatMap putL) (.slice A1 n1 c1) is hw2 (H1.out.below hbel2) ok1.1 ok1.2 (by simp only [List.length_append, List.length_nil]; omega))
  clear hw2 hq2
  go_wp2_with fail
  refine HL2.out.mono ?_
  rintro e w3 ⟨rfl, hto⟩
  have HTO2 := hid (WrTo.more t2 n2_ hto)
  clear hto HL2 hbel2
  obtain ⟨F3, hw3, t3, n3_⟩ := HTO2.out
  have hq3 := block_turn HZ.out t3 (fun h => by have := HNZ.out; exact this h)
  have j3 : w3.cell? ⟨w.heap.size, 1, none⟩ = some (.slice A2 n2 c2) := (cell_of_row _ _ _ _ _ (0, 0) hq3).trans rfl
  have hbel3 := HBW.out.trans (WrTo.bel HW1.out HTO2.out)
  have HL3 := hid (texts_any w3 w.heap.size F3 (w.heap.size + 1) ((([] : Bt) ++ [(0 : Int), mn].flatMap putL) ++ listE putL is) (.slice A2 n2 c2) ss hw3 (Sl.below H2.out hbel3) ok2 (by simp only [List.length_append, List.length_nil]; omega))
  clear hw3 hq3
  go_wp2_with fail
  refine HL3.out.mono ?_
  rintro e w4 ⟨rfl, hto⟩
  have HTO3 := hid (WrTo.more t3 n3_ hto)
  clear hto HL3 hbel3
  obtain ⟨F4, hw4, t4, n4_⟩ := HTO3.out
  have hq4 := block_turn HZ.out t4 (fun h => by have := HNZ.out; exact this h)
  have j4 : w4.cell? ⟨w.heap.size, 2, none⟩ = some (.slice A3 n3 c3) := (cell_of_row _ _ _ _ _ (0, 0) hq4).trans rfl
  have hbel4 := HBW.out.trans (WrTo.bel HW1.out HTO3.out)
  have HL4 := hid (list_texts_any w4 w.heap.size F4 (w.heap.size + 1) (((([] : Bt) ++ [(0 : Int), mn].flatMap putL) ++ listE putL is) ++ listE textE ss) (.slice A3 n3 c3) hs hw4 xh (shapes_keep HH.out hbel4) (H3.out.below hbel4) ok3.1 ok3.2 (by simp only [List.length_append, List.length_nil]; omega))
  clear hw4 hq4
  go_wp2_with fail
  refine HL4.out.mono ?_
  rintro e w5 ⟨rfl, hto⟩
  have HTO4 := hid (WrTo.more t4 n4_ hto)
  clear hto HL4 hbel4
  obtain ⟨F5, hw5, t5, n5_⟩ := HTO4.out
  have hq5 := block_turn HZ.out t5 (fun h => by have := HNZ.out; exact this h)
  have j5 : w5.cell? ⟨w.heap.size, 3, none⟩ = some (.slice A4 n4 c4) := (cell_of_row _ _ _ _ _ (0, 0) hq5).trans rfl
  have hbel5 := HBW.out.trans (WrTo.bel HW1.out HTO4.out)
  have HL5 := hid (list_co_any w5 w.heap.size F5 (w.heap.size + 1) ((((([] : Bt) ++ [(0 : Int), mn].flatMap putL) ++ listE putL is) ++ listE textE ss) ++ listE (listE textE) hs) (.slice A4 n4 c4) cs hw5 xc (HC.out.keep hbel5) (fun x _ => co_any x) (H4.out.below hbel5) ok4.1 ok4.2 (by simp only [List.length_append, List.length_nil]; omega))
  clear hw5 hq5
  go_wp2_with fail
  refine HL5.out.mono ?_
  rintro e w6 ⟨rfl, hto⟩
  have HTO5 := hid (WrTo.more t5 n5_ hto)
  clear hto HL5 hbel5
  obtain ⟨F6, hw6, t6, n6_⟩ := HTO5.out
  have hq6 := block_turn HZ.out t6 (fun h => by have := HNZ.out; exact this h)
  have j6 : w6.cell? ⟨w.heap.size, 4, none⟩ = some (.slice A5 n5 c5) := (cell_of_row _ _ _ _ _ (0, 0) hq6).trans rfl
  have hbel6 := HBW.out.trans (WrTo.bel HW1.out HTO5.out)
  have HL6 := hid (list_proc_any w6 w.heap.size F6 (w.heap.size + 1) (((((([] : Bt) ++ [(0 : Int), mn].flatMap putL) ++ listE putL is) ++ listE textE ss) ++ listE (listE textE) hs) ++ listE coE cs) (.slice A5 n5 c5) ps hw6 xp (procs_keep HP.out hbel6) (H5.out.below hbel6) ok5.1 ok5.2 (by simp only [List.length_append, List.length_nil]; omega))
  clear hw6 hq6
  go_wp2_with fail
  refine HL6.out.mono ?_
  rintro e w7 ⟨rfl, hto⟩
  have HTO6 := hid (WrTo.more t6 n6_ hto)
  clear hto HL6 hbel6
  obtain ⟨F7, ⟨v7, g1, g2, g3, g4, g5⟩, t7, n7_⟩ := HTO6.out
  have z1 : w7.cell? ⟨w.heap.size + 1, 0, none⟩ = some v7 := (cell_of_row _ _ _ _ _ (0, 0) g1).trans rfl
  have hfin := HBW.out.trans (WrTo.bel HW1.out HTO6.out)
  go_wp2_with fail
  go_ret
  refine ⟨v7, rfl, ?_, hfin⟩
  obtain ⟨n, g3⟩ := g3
  have hbb : codeE ⟨is, ss, hs, cs, ps, mn, false⟩ = ((((((([] : Bt) ++ [(0 : Int), mn].flatMap putL) ++ listE putL is) ++ listE textE ss) ++ listE (listE textE) hs) ++ listE coE cs) ++ listE procE ps) := by
    rw [codeE_eq]; unfold mergeE; simp
  rw [hbb]
  exact ⟨n, own_lift g3 (fun g hg => (g5 g (g4 g hg).1).1)⟩

theorem encode_any (w : World) (x : List Value) (c : CodeD) (hr : CodeR w w.heap.size x c) (hok : CodeOk c) (hlen : (codeE c).length + 100 ≤ 140737488355000) :
    Calls Try.prog 10 #[.agg x.toArray] w fun e w' => ∃ v', e = .returned v' ∧ OwnB w' w.heap.size 5 v' (codeE c) ∧ Below w.heap.size w w' := by
  obtain ⟨is, ss, hs, cs, ps, mn, mg⟩ := c
  cases mg with
  | true => exact encode_true w x is ss hs cs ps mn hr hok hlen
  | false => exact encode_false w x is ss hs cs ps mn hr hok hlen
end Go.Proofs.Ytpnggkkfoipfhaa
