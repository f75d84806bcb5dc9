/- YZ, YW -/
import Derived.Test.YtbpedjkebemhnaaGreatDoorSD09
import Derived.Test.YtbpedjkebemhnaaGreatDoorSD17
import Derived.Test.YtbpedjkebemhnaaGreatDoorSD18
set_option linter.unusedSimpArgs false
set_option linter.unusedVariables false
section
/- A module without places: tree.Bare. -/
set_option linter.unusedVariables false
namespace Go.Proofs.YtbpedjkebemhnaaGreatDoor
open Go.RowKit

theorem row_len {α : Type} {R : List Value → α → Prop} {k : Nat} {xs : List Value} {l : List α} (h : TRow R k xs l) : xs.length = l.length * k := h.len
theorem imps_one {w : World} {B : Nat} : ∀ {x : List Value} {l : List ImD}, TRow (ImR w B) 4 x l → ∀ u ∈ x, u.oneCell' = true
  | _, _, .nil => by simp
  | _, _, .cons h1 h2 h3 => by
    intro u hu
    rcases List.mem_append.1 hu with h | h
    · obtain ⟨vn, rfl, hn⟩ := h2
      obtain ⟨A, n, c, rfl, _⟩ := hn
      simp only [List.mem_cons, List.not_mem_nil, or_false] at h
      rcases h with rfl | rfl | rfl | rfl <;> rfl
    · exact imps_one h3 u h
theorem decls_one {w : World} {B : Nat} : ∀ {x : List Value} {l : List DeD}, TRow (DeR w B) 15 x l → ∀ u ∈ x, u.oneCell' = true
  | _, _, .nil => by simp
  | _, _, .cons h1 h2 h3 => by
    intro u hu
    rcases List.mem_append.1 hu with h | h
    · obtain ⟨A1, c1, A2, c2, k, s, n, l, c, A3, n3, c3, A4, n4, c4, A5, n5, c5, xv, xt, rfl, _⟩ := h2.parts
      simp only [List.mem_cons, List.not_mem_nil, or_false] at h
      rcases h with rfl | rfl | rfl | rfl | rfl | rfl | rfl | rfl | rfl | rfl | rfl | rfl | rfl | rfl | rfl <;> rfl
    · exact decls_one h3 u h
/-- Both lists are cloned: where they lie. -/
structure BareMid (w wc : World) (ni nd : Nat) (xi xd : List Value) (A1 : Option Addr) (k1 g1 : Nat) (A2 : Option Addr) (k2 g2 : Nat) : Prop where
  low : Below w.heap.size w wc
  box : wc.heap[w.heap.size]? = some (.cells #[.slice A1 ni k1, .slice A2 nd k2] 39 (0, 0))
  res : wc.heap[w.heap.size + 1]? = some (.cells #[.slice none 0 0, .slice none 0 0] 39 (0, 0))
  c1 : ni ≤ k1 ∧ k1 ≤ maxLen
  c2 : nd ≤ k2 ∧ k2 ≤ maxLen
  a1 : 0 < ni → A1 = some ⟨g1, 0, none⟩ ∧ g1 < wc.heap.size
  a2 : 0 < nd → A2 = some ⟨g2, 0, none⟩ ∧ g2 < wc.heap.size
  r1 : wc.rangeAt g1 0 xi
  r2 : wc.rangeAt g2 0 xd
  t1 : wc.there g1 0 xi.length
  t2 : wc.there g2 0 xd.length
  b1 : w.heap.size + 2 ≤ g1
  b2 : w.heap.size + 2 ≤ g2
  ne : 0 < ni → g1 < g2
theorem bare_box {w w5 : World} {b : Nat} {z0 z1 : Value} {t : TypeId} (hX : w.heap[b]? = some (.cells #[z0, z1] t (0, 0))) (h : Below w.heap.size w w5) : w5.cell? ⟨b, 0, none⟩ = some z0 ∧ w5.cell? ⟨b, 1, none⟩ = some z1 ∧ ∀ i, w5.frozen? ⟨b, i, none⟩ = false := by
  have h5 := (h.block _ (block_lt hX)).trans hX
  obtain ⟨x0, x1⟩ := t_row2 h5
  exact ⟨x0, x1, fun i => frozen_of_row _ _ _ _ _ h5⟩
theorem bare_cut {w W w2 w5 : World} {ni nd n2 n5 : Nat} {xi xd : List Value} {v2 v5 z0 z1 : Value} {ti td : TypeId} (sW : W.heap.size = w.heap.size + 2) (hX : W.heap[w.heap.size]? = some (.cells #[z0, z1] 39 (0, 0)))
    (hY : W.heap[w.heap.size + 1]? = some (.cells #[.slice none 0 0, .slice none 0 0] 39 (0, 0))) (hB : Below w.heap.size w W) (hD : Below W.heap.size W W.drew) (hli : xi.length = ni * 4) (hld : xd.length = nd * 15)
    (ho2 : w2.ownsRow W.drew.heap.size ti 4 v2 n2 xi) (hb2 : Below W.drew.heap.size W.drew w2) (ho5 : w5.ownsRow w2.heap.size td 15 v5 n5 xd) (hb5 : Below w2.heap.size w2 w5) :
    ∃ A1 k1 g1 A2 k2 g2, BareMid w ((w5.setCell ⟨w.heap.size, 0, none⟩ v2).setCell ⟨w.heap.size, 1, none⟩ v5) ni nd xi xd A1 k1 g1 A2 k2 g2 := by
  obtain rfl : n2 = ni := by have := ho2.1; omega
  obtain rfl : n5 = nd := by have := ho5.1; omega
  have s1 : W.drew.heap.size = W.heap.size := rfl
  have s2 := hb2.size
  have s5 := hb5.size
  obtain ⟨A1, k1, g1, rfl, c1, m1, b1, a1, r1, t1⟩ := own_range ho2 hb2.size
  obtain ⟨A2, k2, g2, rfl, c2, m2, b2, a2, r2, t2⟩ := own_range ho5 hb5.size
  have t25 : Turn (fun _ => False) w2 w5 := Turn.of_below hb5
  have hW5 : Below W.heap.size W w5 := hD.trans ((hb2.trans (hb5.mono s2)).mono hD.size)
  have hx5 := (hW5.block _ (block_lt hX)).trans hX
  have hy5 := (hW5.block _ (block_lt hY)).trans hY
  have tt : Turn (fun k => k = w.heap.size) w5 ((w5.setCell ⟨w.heap.size, 0, none⟩ (.slice A1 n2 k1)).setCell ⟨w.heap.size, 1, none⟩ (.slice A2 n5 k2)) := (turn_set _ _ _ _).trans (turn_set _ _ _ _) fun _ _ h => h
  have sz := tt.size
  refine ⟨A1, k1, g1, A2, k2, g2, ?_, heap_setCell_same _ _ 1 _ _ _ (heap_setCell_same _ _ 0 _ _ _ hx5), block_turn hy5 tt (by omega), ⟨c1, m1⟩, ⟨c2, m2⟩, fun h => ⟨(a1 h).1, by have := (a1 h).2; omega⟩, fun h => ⟨(a2 h).1, by have := (a2 h).2; omega⟩,
    range_turn (range_turn r1 t25 id) tt (by omega), range_turn r2 tt (by omega), there_turn (there_turn t1 t25 id) tt (by omega), there_turn t2 tt (by omega), by omega, by omega, fun h => by have := (a1 h).2; omega⟩
  exact (hB.trans (hW5.mono hB.size)).trans (tt.below (by have := hB.size; omega) (fun k hk => by omega))
def OldB (w : World) (g : Nat) : Nat → Prop := fun j => j ≠ g ∧ (j < w.heap.size ∨ w.heap.size + 2 ≤ j)
/-- A function that was made bare: its own parts lie in memory that was there, its body beside them or in new memory. -/
def BaR (w wr : World) (g : Nat) (z : List Value) (d : DeD) : Prop :=
  ∃ vv xv vt xt y, z = [sv d.name, .bool d.exp, vv, sv d.param, vt] ++ (y ++ [.int .i64 d.line, .int .i64 d.col]) ∧ Sl w w.heap.size 5 vv xv ∧ TRow (VaR w w.heap.size) 5 xv d.vars ∧ Sl w w.heap.size 4 vt xt ∧ TysR w w.heap.size xt d.types ∧ NoG wr (OldB w g) y d.body
theorem BaR.turn {w wr wr' : World} {g : Nat} {z : List Value} {d : DeD} {G : Nat → Prop} (h : BaR w wr g z d) (t : Turn G wr wr') (hd : ∀ j, j < wr.heap.size → OldB w g j → ¬ G j) : BaR w wr' g z d := by
  obtain ⟨vv, xv, vt, xt, y, e, h1, h2, h3, h4, h5⟩ := h
  exact ⟨vv, xv, vt, xt, y, e, h1, h2, h3, h4, h5.turn t hd⟩
theorem BaR.de {w wr : World} {g : Nat} {z : List Value} {d : DeD} (h : BaR w wr g z d) (hb : Below w.heap.size w wr) : DeR wr wr.heap.size z d := by
  obtain ⟨vv, xv, vt, xt, y, e, h1, h2, h3, h4, h5⟩ := h
  exact ⟨vv, xv, vt, xt, y, e, Sl.more (Sl.below h1 hb) hb.size, h2.imp fun _ _ h => (h.keep hb).more hb.size, Sl.more (Sl.below h3 hb) hb.size, h4.far (Nat.le_refl _) hb, h5.all⟩
theorem imp_cells {w : World} {B : Nat} {x : List Value} {l : List ImD} (h : TRow (ImR w B) 4 x l) {i : Nat} (hi : i < l.length) : ∃ vn, (x.drop (i * 4)).take 4 = [sv l[i].from_, vn, .int .i64 l[i].line, .int .i64 l[i].col] ∧ Ss w B vn l[i].names := h.at i hi
theorem drop_four {x : List Value} {i : Nat} {a b c d : Value} (h : (x.drop (i * 4)).take 4 = [a, b, c, d]) : x.drop (i * 4) = [a, b, c, d] ++ x.drop ((i + 1) * 4) := by
  rw [← h, show (i + 1) * 4 = i * 4 + 4 by omega, ← List.drop_drop, List.take_append_drop]
/-- Some cells within a row stored anew. -/
theorem range_mid {w : World} {g o : Nat} {a b c b' : List Value} (h : w.rangeAt g 0 (a ++ (b ++ c))) (ht : w.there g 0 (a ++ (b ++ c)).length) (hl : b'.length = b.length) (ho : a.length = o) : (w.setCells g o b').rangeAt g 0 (a ++ (b' ++ c)) := by
  subst ho
  have h4 := range_put (cs := b') (i := a.length) h ht (by simp only [List.length_append]; omega)
  have e1 : (a ++ (b ++ c)).take a.length = a := List.take_left
  have e2 : (a ++ (b ++ c)).drop (a.length + b'.length) = c := by rw [hl, ← List.drop_drop, List.drop_left, List.drop_left]
  rw [e1, e2, List.append_assoc] at h4
  exact h4
theorem decl_round {w wd w2 : World} {g j nd : Nat} {zs xd z2 q : List Value} {l : List DeD} {p5 : List Value} {v13 v14 vv vt : Value} {xv xt : List Value} (hzs : TRow (BaR w wd g) 15 zs ((l.take j).map bareD)) (hl : l.length = nd) (hj : j < nd) (hxl : xd.length = nd * 15)
    (hx : (xd.drop (j * 15)).take 15 = p5 ++ (q ++ [v13, v14])) (hp : p5 = [sv l[j].name, .bool l[j].exp, vv, sv l[j].param, vt]) (hq : q.length = 8) (s1 : Sl w w.heap.size 5 vv xv) (s2 : TRow (VaR w w.heap.size) 5 xv l[j].vars) (s3 : Sl w w.heap.size 4 vt xt) (s4 : TysR w w.heap.size xt l[j].types)
    (t2 : Turn (fun _ => False) wd w2) (hz : NoG w2 (fun k => k < w.heap.size ∨ wd.heap.size ≤ k) z2 (bareN l[j].body)) (hgd : g < wd.heap.size) (hwg : w.heap.size + 2 ≤ g) (hg : w2.rangeAt g 0 (zs ++ xd.drop (j * 15))) (ht : w2.there g 0 (nd * 15)) :
    ∃ zs', TRow (BaR w ((w2.setCells g (j * 15 + 13) [.int .i64 0, .int .i64 0]).setCells g (j * 15 + 5) z2) g) 15 zs' ((l.take (j + 1)).map bareD) ∧ ((w2.setCells g (j * 15 + 13) [.int .i64 0, .int .i64 0]).setCells g (j * 15 + 5) z2).rangeAt g 0 (zs' ++ xd.drop ((j + 1) * 15)) := by
  have hyl : zs.length = j * 15 := by rw [hzs.len, List.length_map, List.length_take]; omega
  have hpl : p5.length = 5 := by rw [hp]; rfl
  have hzl : z2.length = 8 := hz.all.len
  have hd : xd.drop (j * 15) = p5 ++ (q ++ [v13, v14]) ++ xd.drop ((j + 1) * 15) := by
    rw [← hx, show (j + 1) * 15 = j * 15 + 15 by omega, ← List.drop_drop, List.take_append_drop]
  have hlen : (zs ++ xd.drop (j * 15)).length = nd * 15 := by rw [List.length_append, List.length_drop, hyl, hxl]; omega
  rw [hd] at hg hlen
  have g1 : w2.rangeAt g 0 ((zs ++ (p5 ++ q)) ++ ([v13, v14] ++ xd.drop ((j + 1) * 15))) := by
    have e : zs ++ (p5 ++ (q ++ [v13, v14]) ++ xd.drop ((j + 1) * 15)) = (zs ++ (p5 ++ q)) ++ ([v13, v14] ++ xd.drop ((j + 1) * 15)) := by simp
    rwa [e] at hg
  have hlen1 : ((zs ++ (p5 ++ q)) ++ ([v13, v14] ++ xd.drop ((j + 1) * 15))).length = nd * 15 := by rw [← hlen]; simp only [List.length_append, List.length_cons, List.length_nil]; omega
  have g2 := range_mid (b' := [.int .i64 0, .int .i64 0]) (o := j * 15 + 13) g1 (by rw [hlen1]; exact ht) rfl (by simp only [List.length_append]; omega)
  have g3 : (w2.setCells g (j * 15 + 13) [.int .i64 0, .int .i64 0]).rangeAt g 0 ((zs ++ p5) ++ (q ++ ([.int .i64 0, .int .i64 0] ++ xd.drop ((j + 1) * 15)))) := by
    have e : (zs ++ (p5 ++ q)) ++ ([.int .i64 0, .int .i64 0] ++ xd.drop ((j + 1) * 15)) = (zs ++ p5) ++ (q ++ ([.int .i64 0, .int .i64 0] ++ xd.drop ((j + 1) * 15))) := by simp
    rwa [e] at g2
  have hlen2 : ((zs ++ p5) ++ (q ++ (([.int .i64 0, .int .i64 0] : List Value) ++ xd.drop ((j + 1) * 15)))).length = nd * 15 := by rw [← hlen1]; simp only [List.length_append, List.length_cons, List.length_nil]; omega
  have g4 := range_mid (b' := z2) (o := j * 15 + 5) g3 (by rw [hlen2]; exact World.there_setCells ht g (j * 15 + 13) [.int .i64 0, .int .i64 0]) (by omega) (by simp only [List.length_append]; omega)
  have tt : Turn (fun k => k = g) w2 ((w2.setCells g (j * 15 + 13) [.int .i64 0, .int .i64 0]).setCells g (j * 15 + 5) z2) := (turn_sets g _ _ _).trans (turn_sets g _ _ _) fun _ _ h => h
  refine ⟨zs ++ (p5 ++ (z2 ++ ([.int .i64 0, .int .i64 0] : List Value))), ?_, ?_⟩
  · rw [List.take_succ_eq_append_getElem (by omega), List.map_append]
    refine TRow.app (trow_one ?_ ?_) (hzs.imp fun _ _ h => (h.turn t2 (fun _ _ _ h => h)).turn tt (fun k _ h e => h.1 e))
    · simp only [List.length_append, List.length_cons, List.length_nil]; omega
    · refine ⟨vv, xv, vt, xt, z2, ?_, s1, s2, s3, s4, ?_⟩
      · rw [hp]; rfl
      · refine (hz.mono (G := OldB w g) fun k _ h => ?_).turn tt (fun k _ h e => h.1 e)
        rcases h with h | h
        · exact ⟨by omega, .inl h⟩
        · exact ⟨by omega, .inr (by omega)⟩
  · have e : zs ++ (p5 ++ (z2 ++ ([.int .i64 0, .int .i64 0] : List Value))) ++ xd.drop ((j + 1) * 15) = (zs ++ p5) ++ (z2 ++ ([.int .i64 0, .int .i64 0] ++ xd.drop ((j + 1) * 15))) := by simp
    rw [e]; exact g4
/-- One import made bare: its cells. -/
theorem imp_round {w wr : World} {g i ni : Nat} {ys xi : List Value} {l : List ImD} (hys : TRow (ImR w w.heap.size) 4 ys ((l.take i).map bareI)) (hr : TRow (ImR w w.heap.size) 4 xi l) (hl : l.length = ni) (hi : i < ni) (hg : wr.rangeAt g 0 (ys ++ xi.drop (i * 4))) (ht : wr.there g 0 (ni * 4)) :
    ∃ ys', TRow (ImR w w.heap.size) 4 ys' ((l.take (i + 1)).map bareI) ∧ (wr.setCells g (i * 4 + 2) [.int .i64 0, .int .i64 0]).rangeAt g 0 (ys' ++ xi.drop ((i + 1) * 4)) := by
  obtain ⟨vn, hv, hn⟩ := imp_cells hr (i := i) (by omega)
  have hyl : ys.length = i * 4 := by rw [hys.len, List.length_map, List.length_take]; omega
  have hxl : xi.length = ni * 4 := by rw [hr.len, hl]
  refine ⟨ys ++ [sv l[i].from_, vn, .int .i64 0, .int .i64 0], ?_, ?_⟩
  · rw [List.take_succ_eq_append_getElem (by omega), List.map_append]
    have hone : ImR w w.heap.size [sv l[i].from_, vn, .int .i64 0, .int .i64 0] (bareI l[i]) := ⟨vn, rfl, hn⟩
    exact TRow.app (trow_one rfl hone) hys
  · have h4 := range_put (cs := [.int .i64 0, .int .i64 0]) (i := i * 4 + 2) hg (by
      have : (ys ++ xi.drop (i * 4)).length = ni * 4 := by rw [List.length_append, List.length_drop, hyl, hxl]; omega
      rw [this]; exact ht) (by rw [List.length_append, List.length_drop, hyl, hxl]; show i * 4 + 2 + 2 ≤ _; omega)
    rw [drop_four hv] at h4
    have e1 : (ys ++ ([sv l[i].from_, vn, .int .i64 l[i].line, .int .i64 l[i].col] ++ xi.drop ((i + 1) * 4))).take (i * 4 + 2) = ys ++ [sv l[i].from_, vn] := by
      rw [← hyl, List.take_length_add_append]; rfl
    have e2 : (ys ++ ([sv l[i].from_, vn, .int .i64 l[i].line, .int .i64 l[i].col] ++ xi.drop ((i + 1) * 4))).drop (i * 4 + 2 + ([.int .i64 0, .int .i64 0] : List Value).length) = xi.drop ((i + 1) * 4) := by
      rw [show i * 4 + 2 + ([.int .i64 0, .int .i64 0] : List Value).length = ys.length + 4 by rw [hyl]; rfl, List.drop_length_add_append]; rfl
    rw [e1, e2] at h4
    have e3 : ys ++ [sv l[i].from_, vn, .int .i64 0, .int .i64 0] = ys ++ [sv l[i].from_, vn] ++ [.int .i64 0, .int .i64 0] := by simp
    rw [e3]; exact h4
set_option maxRecDepth 100000 in
set_option maxHeartbeats 8000000 in
theorem tbare_any (m : MoD) (w : World) (z : List Value) (h1 : MoR w w.heap.size z m) (hni : m.imps.length ≤ 100000) (hnd : m.decls.length ≤ 100000) (hbo : ∀ d ∈ m.decls, cntN d.body ≤ 100000) :
    Calls Tryz.prog 26 #[.agg z.toArray] w fun e w' => ∃ z', e = .returned (.agg z'.toArray) ∧ MoR w' w'.heap.size z' (bareM m) ∧ Below w.heap.size w w' := by
  obtain ⟨A1, c1, A2, c2, xi, xd, rfl, s1, r1, s2, r2⟩ := h1.parts
  obtain ⟨W, hW⟩ : ∃ W, (w.alloc (.cells #[.slice A1 m.imps.length c1, .slice A2 m.decls.length c2] 39)).alloc (.cells #[.slice none 0 0, .slice none 0 0] 39) = W := ⟨_, rfl⟩
  have hb2 : Below w.heap.size w W := by rw [← hW]; exact ((Below.refl _ _).alloc (Nat.le_refl _) _).alloc (by simp) _
  have hbx := two_new w (.cells #[.slice A1 m.imps.length c1, .slice A2 m.decls.length c2] 39) (.cells #[.slice none 0 0, .slice none 0 0] 39)
  rw [hW] at hbx
  have HX := hid hbx.1
  have HY := hid hbx.2
  have HB2 := hid hb2
  have sW : W.heap.size = w.heap.size + 2 := by rw [← hW]; simp
  have HCI := hid (fun (w1 : World) (h : Below W.heap.size W w1) => clone_imports w1 _ xi m.imps.length (Sl.more (Sl.below s1 (hb2.trans (h.mono (by omega)))) (by have := h.size; omega)) r1.len hni (imps_one r1))
  have HCD := hid (fun (w1 : World) (h : Below W.heap.size W w1) => clone_decls w1 _ xd m.decls.length (Sl.more (Sl.below s2 (hb2.trans (h.mono (by omega)))) (by have := h.size; omega)) r2.len hnd (decls_one r2))
  have HR1 := hid r1
  have HR2 := hid r2
  have HLI := hid (row_len r1)
  have HLD := hid (row_len r2)
  have HBO := hid hbo
  obtain ⟨x0, x1⟩ := t_row2 hbx.1
  have X0 := hid x0
  have X1 := hid x1
  clear h1 s1 s2 r1 r2 hbx hb2 x0 x1 hbo
  obtain ⟨ni, hnie⟩ : ∃ x, m.imps.length = x := ⟨_, rfl⟩
  obtain ⟨nd, hnde⟩ : ∃ x, m.decls.length = x := ⟨_, rfl⟩
  rw [hnie] at hW HX HCI HLI X0 hni
  rw [hnde] at hW HX HCD HLD X1 hnd
  rw [hnie, hnde]
  have HNI := hid hnie
  have HND := hid hnde
  clear hnie hnde
  go_enter Tryz.func26, Tryz.ntmps26
  go_upto_region 1 with (fail)
  clear hW
  go_cut [1] from 6 (fun v1 wc => v1 = .pointer (some ⟨w.heap.size, 0, none⟩) ∧ ∃ A1 k1 g1 A2 k2 g2, BareMid w wc ni nd xi xd A1 k1 g1 A2 k2 g2)
  case first =>
    have HB0 : Hid ((fun _ : World => True) W.drew) := hid trivial
    have HBD : Hid (Below W.heap.size W W.drew) := hid (below_drawn W 1)
    refine wp_region_held_drew (S := fun _ => True) (by kernel_rfl) HB0.out (fun _ => ?_)
    try simp only [Act.put, List.getElem_toArray, List.getElem_cons_zero, List.getElem_cons_succ, List.setIfInBounds_toArray, List.set_cons_zero, List.set_cons_succ]
    refine tk 0 (.pointer (some ⟨w.heap.size, 0, none⟩)) HB0.out ?_
    refine tk 3 (.pointer (some ⟨w.heap.size, 1, none⟩)) HB0.out ?_
    -- REGION1 begin
    refine wpAnyH_ready (rs := [1, 4]) (by kernel_rfl) (by simp) ?_
    refine AllReadyH.cons rfl (fun K hK => ?_) (AllReadyH.cons rfl (fun K hK => ?_) AllReadyH.nil)
    · have x0 := X0.out
      go_simp
      refine hK.out _ _ trivial (fun _ => ?_)
      clear hK K x0
      try simp only [Act.put, List.getElem_toArray, List.getElem_cons_zero, List.getElem_cons_succ, List.setIfInBounds_toArray, List.set_cons_zero, List.set_cons_succ]
      refine wpAnyH_ready (rs := [2, 4]) (by kernel_rfl) (by simp) ?_
      refine AllReadyH.cons rfl (fun K hK => ?_) (AllReadyH.cons rfl (fun K hK => ?_) AllReadyH.nil)
      · go_simp
        refine (HCI.out _ HBD.out).mono ?_
        rintro e w2 ⟨v2, n2, rfl, ho2, hb⟩
        obtain ⟨Aa, na, ca, rfl⟩ := own_shape0 ho2
        have HO2 := hid ho2
        have HB2_ := hid hb
        clear ho2 hb
        refine hK.out _ _ trivial (fun _ => ?_)
        clear hK K
        try simp only [Act.put, List.getElem_toArray, List.getElem_cons_zero, List.getElem_cons_succ, List.setIfInBounds_toArray, List.set_cons_zero, List.set_cons_succ]
        refine wpAnyH_ready (rs := [4]) (by kernel_rfl) (by simp) ?_
        refine AllReadyH.cons rfl (fun K hK => ?_) AllReadyH.nil
        have x1 := (kb HB2_.out (show W.drew.cell? ⟨w.heap.size, 1, none⟩ = _ from X1.out))
        go_simp
        refine hK.out _ _ trivial (fun _ => ?_)
        clear hK K x1
        try simp only [Act.put, List.getElem_toArray, List.getElem_cons_zero, List.getElem_cons_succ, List.setIfInBounds_toArray, List.set_cons_zero, List.set_cons_succ]
        refine tk 6 (.pointer (some ⟨w.heap.size, 0, none⟩)) trivial ?_
        refine wpAnyH_ready (rs := [5]) (by kernel_rfl) (by simp) ?_
        refine AllReadyH.cons rfl (fun K hK => ?_) AllReadyH.nil
        go_simp
        refine (HCD.out _ (HBD.out.trans (HB2_.out.mono HBD.out.size))).mono ?_
        rintro e w5 ⟨v5, n5, rfl, ho5, hb⟩
        obtain ⟨Ab, nb, cb, rfl⟩ := own_shape0 ho5
        have HO5 := hid ho5
        have HB5 := hid hb
        clear ho5 hb
        refine hK.out _ _ trivial (fun _ => ?_)
        clear hK K
        try simp only [Act.put, List.getElem_toArray, List.getElem_cons_zero, List.getElem_cons_succ, List.setIfInBounds_toArray, List.set_cons_zero, List.set_cons_succ]
        refine wpAnyH_ready (rs := [7]) (by kernel_rfl) (by simp) ?_
        refine AllReadyH.cons rfl (fun K hK => ?_) AllReadyH.nil
        obtain ⟨q0, q1, z0⟩ := bare_box HX.out (HBD.out.trans ((HB2_.out.trans (HB5.out.mono HB2_.out.size)).mono HBD.out.size))
        rw [if_pos (by kernel_rfl)]
        go_simp
        refine hK.out _ _ trivial (fun _ => ?_)
        clear hK K
        try simp only [Act.put, List.getElem_toArray, List.getElem_cons_zero, List.getElem_cons_succ, List.setIfInBounds_toArray, List.set_cons_zero, List.set_cons_succ]
        refine tk 8 (.pointer (some ⟨w.heap.size, 1, none⟩)) trivial ?_
        refine wpAnyH_ready (rs := [9]) (by kernel_rfl) (by simp) ?_
        refine AllReadyH.cons rfl (fun K hK => ?_) AllReadyH.nil
        rw [if_pos (by kernel_rfl)]
        go_simp
        refine hK.out _ _ trivial (fun _ => ?_)
        clear hK K q0 q1 z0
        try simp only [Act.put, List.getElem_toArray, List.getElem_cons_zero, List.getElem_cons_succ, List.setIfInBounds_toArray, List.set_cons_zero, List.set_cons_succ]
        refine wpAnyH_done (by kernel_rfl) ?_ _
        go_wp2_with fail
        go_meet
        case rel => exact ⟨rfl, bare_cut sW HX.out HY.out HB2.out HBD.out HLI.out HLD.out HO2.out HB2_.out HO5.out HB5.out⟩
      · have x1 := X1.out
        go_simp
        refine hK.out _ _ trivial (fun _ => ?_)
        clear hK K x1
        try simp only [Act.put, List.getElem_toArray, List.getElem_cons_zero, List.getElem_cons_succ, List.setIfInBounds_toArray, List.set_cons_zero, List.set_cons_succ]
        refine wpAnyH_ready (rs := [2]) (by kernel_rfl) (by simp) ?_
        refine AllReadyH.cons rfl (fun K hK => ?_) AllReadyH.nil
        go_simp
        refine (HCI.out _ HBD.out).mono ?_
        rintro e w2 ⟨v2, n2, rfl, ho2, hb⟩
        obtain ⟨Aa, na, ca, rfl⟩ := own_shape0 ho2
        have HO2 := hid ho2
        have HB2_ := hid hb
        clear ho2 hb
        refine hK.out _ _ trivial (fun _ => ?_)
        clear hK K
        try simp only [Act.put, List.getElem_toArray, List.getElem_cons_zero, List.getElem_cons_succ, List.setIfInBounds_toArray, List.set_cons_zero, List.set_cons_succ]
        refine tk 6 (.pointer (some ⟨w.heap.size, 0, none⟩)) trivial ?_
        refine wpAnyH_ready (rs := [5]) (by kernel_rfl) (by simp) ?_
        refine AllReadyH.cons rfl (fun K hK => ?_) AllReadyH.nil
        go_simp
        refine (HCD.out _ (HBD.out.trans (HB2_.out.mono HBD.out.size))).mono ?_
        rintro e w5 ⟨v5, n5, rfl, ho5, hb⟩
        obtain ⟨Ab, nb, cb, rfl⟩ := own_shape0 ho5
        have HO5 := hid ho5
        have HB5 := hid hb
        clear ho5 hb
        refine hK.out _ _ trivial (fun _ => ?_)
        clear hK K
        try simp only [Act.put, List.getElem_toArray, List.getElem_cons_zero, List.getElem_cons_succ, List.setIfInBounds_toArray, List.set_cons_zero, List.set_cons_succ]
        refine wpAnyH_ready (rs := [7]) (by kernel_rfl) (by simp) ?_
        refine AllReadyH.cons rfl (fun K hK => ?_) AllReadyH.nil
        obtain ⟨q0, q1, z0⟩ := bare_box HX.out (HBD.out.trans ((HB2_.out.trans (HB5.out.mono HB2_.out.size)).mono HBD.out.size))
        rw [if_pos (by kernel_rfl)]
        go_simp
        refine hK.out _ _ trivial (fun _ => ?_)
        clear hK K
        try simp only [Act.put, List.getElem_toArray, List.getElem_cons_zero, List.getElem_cons_succ, List.setIfInBounds_toArray, List.set_cons_zero, List.set_cons_succ]
        refine tk 8 (.pointer (some ⟨w.heap.size, 1, none⟩)) trivial ?_
        refine wpAnyH_ready (rs := [9]) (by kernel_rfl) (by simp) ?_
        refine AllReadyH.cons rfl (fun K hK => ?_) AllReadyH.nil
        rw [if_pos (by kernel_rfl)]
        go_simp
        refine hK.out _ _ trivial (fun _ => ?_)
        clear hK K q0 q1 z0
        try simp only [Act.put, List.getElem_toArray, List.getElem_cons_zero, List.getElem_cons_succ, List.setIfInBounds_toArray, List.set_cons_zero, List.set_cons_succ]
        refine wpAnyH_done (by kernel_rfl) ?_ _
        go_wp2_with fail
        go_meet
        case rel => exact ⟨rfl, bare_cut sW HX.out HY.out HB2.out HBD.out HLI.out HLD.out HO2.out HB2_.out HO5.out HB5.out⟩
    · have x1 := X1.out
      go_simp
      refine hK.out _ _ trivial (fun _ => ?_)
      clear hK K x1
      try simp only [Act.put, List.getElem_toArray, List.getElem_cons_zero, List.getElem_cons_succ, List.setIfInBounds_toArray, List.set_cons_zero, List.set_cons_succ]
      refine wpAnyH_ready (rs := [1]) (by kernel_rfl) (by simp) ?_
      refine AllReadyH.cons rfl (fun K hK => ?_) AllReadyH.nil
      have x0 := X0.out
      go_simp
      refine hK.out _ _ trivial (fun _ => ?_)
      clear hK K x0
      try simp only [Act.put, List.getElem_toArray, List.getElem_cons_zero, List.getElem_cons_succ, List.setIfInBounds_toArray, List.set_cons_zero, List.set_cons_succ]
      refine wpAnyH_ready (rs := [2]) (by kernel_rfl) (by simp) ?_
      refine AllReadyH.cons rfl (fun K hK => ?_) AllReadyH.nil
      go_simp
      refine (HCI.out _ HBD.out).mono ?_
      rintro e w2 ⟨v2, n2, rfl, ho2, hb⟩
      obtain ⟨Aa, na, ca, rfl⟩ := own_shape0 ho2
      have HO2 := hid ho2
      have HB2_ := hid hb
      clear ho2 hb
      refine hK.out _ _ trivial (fun _ => ?_)
      clear hK K
      try simp only [Act.put, List.getElem_toArray, List.getElem_cons_zero, List.getElem_cons_succ, List.setIfInBounds_toArray, List.set_cons_zero, List.set_cons_succ]
      refine tk 6 (.pointer (some ⟨w.heap.size, 0, none⟩)) trivial ?_
      refine wpAnyH_ready (rs := [5]) (by kernel_rfl) (by simp) ?_
      refine AllReadyH.cons rfl (fun K hK => ?_) AllReadyH.nil
      go_simp
      refine (HCD.out _ (HBD.out.trans (HB2_.out.mono HBD.out.size))).mono ?_
      rintro e w5 ⟨v5, n5, rfl, ho5, hb⟩
      obtain ⟨Ab, nb, cb, rfl⟩ := own_shape0 ho5
      have HO5 := hid ho5
      have HB5 := hid hb
      clear ho5 hb
      refine hK.out _ _ trivial (fun _ => ?_)
      clear hK K
      try simp only [Act.put, List.getElem_toArray, List.getElem_cons_zero, List.getElem_cons_succ, List.setIfInBounds_toArray, List.set_cons_zero, List.set_cons_succ]
      refine wpAnyH_ready (rs := [7]) (by kernel_rfl) (by simp) ?_
      refine AllReadyH.cons rfl (fun K hK => ?_) AllReadyH.nil
      obtain ⟨q0, q1, z0⟩ := bare_box HX.out (HBD.out.trans ((HB2_.out.trans (HB5.out.mono HB2_.out.size)).mono HBD.out.size))
      rw [if_pos (by kernel_rfl)]
      go_simp
      refine hK.out _ _ trivial (fun _ => ?_)
      clear hK K
      try simp only [Act.put, List.getElem_toArray, List.getElem_cons_zero, List.getElem_cons_succ, List.setIfInBounds_toArray, List.set_cons_zero, List.set_cons_succ]
      refine tk 8 (.pointer (some ⟨w.heap.size, 1, none⟩)) trivial ?_
      refine wpAnyH_ready (rs := [9]) (by kernel_rfl) (by simp) ?_
      refine AllReadyH.cons rfl (fun K hK => ?_) AllReadyH.nil
      rw [if_pos (by kernel_rfl)]
      go_simp
      refine hK.out _ _ trivial (fun _ => ?_)
      clear hK K q0 q1 z0
      try simp only [Act.put, List.getElem_toArray, List.getElem_cons_zero, List.getElem_cons_succ, List.setIfInBounds_toArray, List.set_cons_zero, List.set_cons_succ]
      refine wpAnyH_done (by kernel_rfl) ?_ _
      go_wp2_with fail
      go_meet
      case rel => exact ⟨rfl, bare_cut sW HX.out HY.out HB2.out HBD.out HLI.out HLD.out HO2.out HB2_.out HO5.out HB5.out⟩
    -- REGION1 end
  case rest =>
    obtain ⟨rfl, A3, k1, g1, A4, k2, g2, hM⟩ := hcut
    have HM := hid hM
    obtain ⟨x0, x1⟩ := t_row2 hM.box
    have c1' := hM.c1
    have c2' := hM.c2
    have hlo := hM.b1
    have hlo2 := hM.b2
    unfold maxLen at c1' c2'
    have HBM := hid HB2
    clear hM X0 X1 HX HY HB2 HCI HCD
    go_wp2_with fail
    clear x0 x1
    go_loopw [17] (fun v17 wr => ∃ (i : Nat) (ys : List Value), v17 = .int .i64 i ∧ i ≤ ni ∧ TRow (ImR w w.heap.size) 4 ys ((m.imps.take i).map bareI) ∧ wr.rangeAt g1 0 (ys ++ xi.drop (i * 4)) ∧ wr.there g1 0 (ni * 4) ∧ Turn (fun j => 0 < ni ∧ j = g1) wc wr) (fun v17 _ => ni - (intOf v17).toNat)
    case atStart => exact ⟨0, [], rfl, by omega, .nil, by simpa using HM.out.r1, by have := HM.out.t1; rwa [HLI.out] at this, Turn.refl _ _⟩
    case round =>
      obtain ⟨i, ys, rfl, hi, hys, hrg, hth, htu⟩ := hrel
      have hbx := (htu.block (block_lt HM.out.box) (by omega)).trans HM.out.box
      obtain ⟨x0, x1⟩ := t_row2 hbx
      by_cases hlt : i < ni
      · obtain ⟨rfl, hgl⟩ := HM.out.a1 (by omega)
        have hil : i < m.imps.length := by rw [HNI.out]; exact hlt
        obtain ⟨vn, hv, _⟩ := imp_cells HR1.out hil
        have hyl : ys.length = i * 4 := by rw [hys.len, List.length_map, List.length_take]; omega
        have hcell : ∀ j v, ([sv m.imps[i].from_, vn, .int .i64 m.imps[i].line, .int .i64 m.imps[i].col] : List Value)[j]? = some v → wr.cell? ⟨g1, i * 4 + j, none⟩ = some v := by
          intro j v h
          have hj : j < 4 := (List.getElem?_eq_some_iff.1 h).1
          have h2 := hrg (i * 4 + j) v (by rw [List.getElem?_append_right (by omega), hyl, Nat.add_sub_cancel_left, drop_four hv, List.getElem?_append_left (by exact hj)]; exact h)
          rwa [Nat.zero_add] at h2
        have d2 : wr.cell? ⟨g1, i * 4 + 2, none⟩ = some (.int .i64 m.imps[i].line) := hcell 2 _ rfl
        have d3 : wr.cell? ⟨g1, i * 4 + 3, none⟩ = some (.int .i64 m.imps[i].col) := hcell 3 _ rfl
        have z2 : wr.frozen? ⟨g1, i * 4 + 2, none⟩ = false := by have := (hth (i * 4 + 2) (by omega)).2; rwa [Nat.zero_add] at this
        have z3 : wr.frozen? ⟨g1, i * 4 + 3, none⟩ = false := by have := (hth (i * 4 + 3) (by omega)).2; rwa [Nat.zero_add] at this
        have hn0 : ¬ w.heap.size = g1 := by omega
        have XX := hid (fun (w' : World) (h : Turn (fun j => j = g1) wr w') => turn_cell x0 h hn0)
        have HRND := hid (imp_round hys HR1.out HNI.out hlt hrg hth)
        have HTH := hid hth
        have HTU := hid htu
        have HB0 : Hid (Turn (fun j => j = g1) wr wr.drew) := hid ⟨rfl, rfl, rfl, Nat.le_refl _, fun _ _ _ => rfl⟩
        clear hys hrg hth htu hbx x0 x1 hcell
        go_wp2_with fail
        refine wp_region_held_drew (S := fun w' => Turn (fun j => j = g1) wr w') (by kernel_rfl) HB0.out (fun _ => ?_)
        try simp only [Act.put, List.getElem_toArray, List.getElem_cons_zero, List.getElem_cons_succ, List.setIfInBounds_toArray, List.set_cons_zero, List.set_cons_succ]
        refine tk 0 (.pointer (some ⟨w.heap.size, 0, none⟩)) HB0.out ?_
        refine tkf 1 (.slice (some ⟨g1, 0, none⟩) ni k1) XX.out HB0.out ?_
        refine tk 2 (.int .i64 (i : Int)) HB0.out ?_
        refine tk 3 (.pointer (some ⟨w.heap.size, 0, none⟩)) HB0.out ?_
        refine tkf 4 (.slice (some ⟨g1, 0, none⟩) ni k1) XX.out HB0.out ?_
        refine tk 5 (.int .i64 (i : Int)) HB0.out ?_
        refine tk 6 (.pointer (some ⟨g1, i * 4, none⟩)) HB0.out ?_
        refine tk 7 (.pointer (some ⟨g1, i * 4 + 2, none⟩)) HB0.out ?_
        refine wpAnyH_ready (rs := [8]) (by kernel_rfl) (by simp) ?_
        refine AllReadyH.cons rfl (fun K hK => ?_) (AllReadyH.nil)
        rw [if_pos (by kernel_rfl)]
        go_simp
        have HS1 : Hid (Turn (fun j => j = g1) wr (wr.drew.setCell ⟨g1, i * 4 + 2, none⟩ (.int .i64 0))) := hid (HB0.out.trans (turn_set _ _ _ _) (fun _ _ h => h))
        refine hK.out _ _ HS1.out (fun _ => ?_)
        clear hK K
        try simp only [Act.put, List.getElem_toArray, List.getElem_cons_zero, List.getElem_cons_succ, List.setIfInBounds_toArray, List.set_cons_zero, List.set_cons_succ]
        refine tk 9 (.pointer (some ⟨g1, i * 4, none⟩)) HS1.out ?_
        refine tk 10 (.pointer (some ⟨g1, i * 4 + 3, none⟩)) HS1.out ?_
        refine wpAnyH_ready (rs := [11]) (by kernel_rfl) (by simp) ?_
        refine AllReadyH.cons rfl (fun K hK => ?_) (AllReadyH.nil)
        rw [if_pos (by kernel_rfl)]
        go_simp
        have HS2 : Hid (Turn (fun j => j = g1) wr ((wr.drew.setCell ⟨g1, i * 4 + 2, none⟩ (.int .i64 0)).setCell ⟨g1, i * 4 + 3, none⟩ (.int .i64 0))) := hid (HS1.out.trans (turn_set _ _ _ _) (fun _ _ h => h))
        refine hK.out _ _ HS2.out (fun _ => ?_)
        clear hK K
        try simp only [Act.put, List.getElem_toArray, List.getElem_cons_zero, List.getElem_cons_succ, List.setIfInBounds_toArray, List.set_cons_zero, List.set_cons_succ]
        refine wpAnyH_done (by kernel_rfl) ?_ _
        go_wp2_with fail
        go_roundw
        case rel =>
          obtain ⟨ys', h1, h2⟩ := HRND.out
          exact ⟨i + 1, ys', rfl, by omega, h1, h2, World.there_setCells HTH.out g1 (i * 4 + 2) [.int .i64 0, .int .i64 0], HTU.out.trans HS2.out (fun _ _ h => ⟨by omega, h⟩)⟩
        case measure => simp [intOf]; omega
      · obtain rfl : i = ni := by omega
        rw [List.drop_of_length_le (by rw [HLI.out]; exact Nat.le_refl _), List.append_nil] at hrg
        rw [List.take_of_length_le (by rw [HNI.out]; exact Nat.le_refl _)] at hys
        have HNE : Hid (¬ (0 < i ∧ g2 = g1)) := hid (fun h => by have := HM.out.ne h.1; omega)
        have HR2R := hid (range_turn HM.out.r2 htu HNE.out)
        have HT2R := hid (there_turn HM.out.t2 htu HNE.out)
        have HWR : Hid (Below w.heap.size w wr) := hid (HM.out.low.trans (htu.below HM.out.low.size (fun k hk h => by omega)))
        have HBR := hid hbx
        have HYR := hid ((htu.block (block_lt HM.out.res) (by omega)).trans HM.out.res)
        have HYS := hid hys
        have HRG := hid hrg
        have htz := htu.size
        have swr := HWR.out.size
        clear hys hrg htu hth hbx
        obtain ⟨wx, rfl⟩ : ∃ x, x = wr := ⟨_, rfl⟩
        go_wp2_with fail
        clear x0 x1
        go_loopw [34] (fun v34 wd => ∃ (j : Nat) (zs : List Value), v34 = .int .i64 j ∧ j ≤ nd ∧ TRow (BaR w wd g2) 15 zs ((m.decls.take j).map bareD) ∧ wd.rangeAt g2 0 (zs ++ xd.drop (j * 15)) ∧ wd.there g2 0 (nd * 15) ∧ Turn (fun k => k = g2) wx wd) (fun v34 _ => nd - (intOf v34).toNat)
        case atStart => exact ⟨0, [], rfl, by omega, .nil, by simpa using HR2R.out, by have := HT2R.out; rwa [HLD.out] at this, Turn.refl _ _⟩
        case round =>
          obtain ⟨j, zs, rfl, hj, hzs, hrg, hth, htd⟩ := hrel
          have hbx := (htd.block (block_lt HBR.out) (by omega)).trans HBR.out
          obtain ⟨x0, x1⟩ := t_row2 hbx
          have sdz := htd.size
          have HWD : Hid (Below w.heap.size w wr) := hid (HWR.out.trans (htd.below swr (fun k hk h => by omega)))
          by_cases hlt : j < nd
          · obtain ⟨rfl, hgl⟩ := HM.out.a2 (by omega)
            have hjl : j < m.decls.length := by rw [HND.out]; exact hlt
            have hz := HR2.out.at j hjl
            obtain ⟨B1, e1, B2, e2, k, t, n, l, c, B3, n3, e3, B4, n4, e4, B5, n5, e5, xv, xt, hzz, q1, q2, q3, q4, q5⟩ := hz.parts
            have hyl : zs.length = j * 15 := by rw [hzs.len, List.length_map, List.length_take]; omega
            have hcell : ∀ i v, ((xd.drop (j * 15)).take 15)[i]? = some v → wr.cell? ⟨g2, j * 15 + i, none⟩ = some v := by
              intro i v h
              have h2 := hrg (j * 15 + i) v (by rw [List.getElem?_append_right (by omega), hyl, Nat.add_sub_cancel_left]; rw [List.getElem?_take] at h; split at h; exact h; cases h)
              rwa [Nat.zero_add] at h2
            rw [hzz] at hcell
            have d5 : wr.cell? ⟨g2, j * 15 + 5, none⟩ = some (.int .i64 k) := hcell 5 _ rfl
            have d6 : wr.cell? ⟨g2, j * 15 + 6, none⟩ = some (.string t) := hcell 6 _ rfl
            have d7 : wr.cell? ⟨g2, j * 15 + 7, none⟩ = some (.int .i64 n) := hcell 7 _ rfl
            have d8 : wr.cell? ⟨g2, j * 15 + 8, none⟩ = some (.int .i64 l) := hcell 8 _ rfl
            have d9 : wr.cell? ⟨g2, j * 15 + 9, none⟩ = some (.int .i64 c) := hcell 9 _ rfl
            have d10 : wr.cell? ⟨g2, j * 15 + 10, none⟩ = some (.slice B3 n3 e3) := hcell 10 _ rfl
            have d11 : wr.cell? ⟨g2, j * 15 + 11, none⟩ = some (.slice B4 n4 e4) := hcell 11 _ rfl
            have d12 : wr.cell? ⟨g2, j * 15 + 12, none⟩ = some (.slice B5 n5 e5) := hcell 12 _ rfl
            have D13 := hid (show wr.cell? ⟨g2, j * 15 + 13, none⟩ = some (.int .i64 m.decls[j].line) from hcell 13 _ rfl)
            have D14 := hid (show wr.cell? ⟨g2, j * 15 + 14, none⟩ = some (.int .i64 m.decls[j].col) from hcell 14 _ rfl)
            have HFZ := hid (fun (w' : World) (h : Turn (fun _ => False) wr w') i (hi : i < 15) => show w'.frozen? ⟨g2, j * 15 + i, none⟩ = false by have := (there_turn hth h id (j * 15 + i) (by omega)).2; rwa [Nat.zero_add] at this)
            have HKB := hid (kp8 d5 d6 d7 d8 d9 d10 d11 d12)
            have HBODY := hid (bare_all m.decls[j].body wr _ (· < w.heap.size) ((NoG.of q5 (Nat.le_refl _)).turn (Turn.of_below (F := fun _ => False) HWD.out) (fun _ _ _ h => h)) (fun k hk => by omega) (HBO.out _ (List.getElem_mem hjl)))
            have HP := hid (And.intro hzz (And.intro q1 (And.intro q2 (And.intro q3 q4))))
            have HZS := hid hzs
            have HRG2 := hid hrg
            have HTH := hid hth
            have HTD := hid htd
            clear hzs hrg hth htd hbx hcell hz hzz q1 q2 q3 q4 q5
            go_wp2_with fail
            refine HBODY.out.mono ?_
            rintro e w2 ⟨z2, rfl, hz2, hb⟩
            have t2 : Turn (fun _ => False) wr w2 := Turn.of_below hb
            obtain ⟨f5, f6, f7, f8, f9, f10, f11, f12⟩ := HKB.out _ hb
            have f13 := kb hb D13.out
            have f14 := kb hb D14.out
            have y5 := HFZ.out _ t2 5 (by omega)
            have y6 := HFZ.out _ t2 6 (by omega)
            have y7 := HFZ.out _ t2 7 (by omega)
            have y8 := HFZ.out _ t2 8 (by omega)
            have y9 := HFZ.out _ t2 9 (by omega)
            have y10 := HFZ.out _ t2 10 (by omega)
            have y11 := HFZ.out _ t2 11 (by omega)
            have y12 := HFZ.out _ t2 12 (by omega)
            have y13 := HFZ.out _ t2 13 (by omega)
            have y14 := HFZ.out _ t2 14 (by omega)
            have HRND := hid (decl_round HZS.out HND.out hlt HLD.out (HP.out.1.trans (show _ = [sv m.decls[j].name, .bool m.decls[j].exp, .slice B1 m.decls[j].vars.length e1, sv m.decls[j].param, .slice B2 m.decls[j].types.length e2] ++ ([.int .i64 k, .string t, .int .i64 n, .int .i64 l, .int .i64 c, .slice B3 n3 e3, .slice B4 n4 e4, .slice B5 n5 e5] ++ [.int .i64 m.decls[j].line, .int .i64 m.decls[j].col]) from rfl)) rfl rfl HP.out.2.1 HP.out.2.2.1 HP.out.2.2.2.1 HP.out.2.2.2.2 t2 hz2 (by omega) hlo2 (range_turn HRG2.out t2 id) (there_turn HTH.out t2 id))
            have HT2 := hid t2
            have HTH2 := hid (there_turn HTH.out t2 id)
            obtain ⟨k2, s2, a4, a5, a6, P4, m4, e4', P5, m5, e5', P6, m6, e6', rfl⟩ := hz2.all.shape
            clear hz2 hb t2 d5 d6 d7 d8 d9 d10 d11 d12
            go_wp2_with fail
            go_roundw
            case rel =>
              obtain ⟨zs', h1, h2⟩ := HRND.out
              have h3 := World.there_setCells (World.there_setCells HTH2.out g2 (j * 15 + 13) [.int .i64 0, .int .i64 0]) g2 (j * 15 + 5) [.int .i64 k2, .string s2, .int .i64 a4, .int .i64 a5, .int .i64 a6, .slice P4 m4 e4', .slice P5 m5 e5', .slice P6 m6 e6']
              have h4 := HTD.out.trans ((HT2.out.mono (G := fun k => k = g2) (fun _ _ h => h.elim)).trans ((turn_sets g2 [.int .i64 0, .int .i64 0] (j * 15 + 13) w2).trans (turn_sets g2 [.int .i64 k2, .string s2, .int .i64 a4, .int .i64 a5, .int .i64 a6, .slice P4 m4 e4', .slice P5 m5 e5', .slice P6 m6 e6'] (j * 15 + 5) _) (fun _ _ h => h)) (fun _ _ h => h)) (fun _ _ h => h)
              simp only [World.setCells, Nat.add_assoc, Nat.reduceAdd] at h1 h2 h3 h4 ⊢
              exact ⟨j + 1, zs', rfl, by omega, h1, h2, h3, h4⟩
            case measure => simp [intOf]; omega
          · obtain rfl : j = nd := by omega
            rw [List.drop_of_length_le (by rw [HLD.out]; exact Nat.le_refl _), List.append_nil] at hrg
            rw [List.take_of_length_le (by rw [HND.out]; exact Nat.le_refl _)] at hzs
            have hyd := (htd.block (block_lt HYR.out) (by omega)).trans HYR.out
            obtain ⟨y0, y1⟩ := t_row2 hyd
            have z1 : ∀ k, wr.frozen? ⟨w.heap.size + 1, k, none⟩ = false := fun k => frozen_of_row _ _ _ _ _ hyd
            have HYD := hid hyd
            have HZS := hid hzs
            have HRD := hid hrg
            have HTD := hid htd
            clear hzs hrg hth htd hbx hyd
            go_wp2_with fail
            have ec := heap_setCell_same _ _ 1 _ _ (.slice A4 j k2) (heap_setCell_same _ _ 0 _ _ (.slice A3 i k1) HYD.out)
            have tc := (turn_set wr (w.heap.size + 1) 0 (.slice A3 i k1)).trans (turn_set _ (w.heap.size + 1) 1 (.slice A4 j k2)) (fun _ _ h => h)
            refine bodyPost_ret (res_cell rfl rfl ec Tryz.underlying39 rfl (by kernel_rfl)) rfl ?_
            clear ec
            generalize hw9 : ((wr.setCell _ _).setCell _ _) = w9 at tc ⊢
            have hwf : Below w.heap.size w w9 := HWD.out.trans (tc.below HWD.out.size (fun k hk e => by omega))
            have tcs := tc.size
            have tall : Turn (fun k => k = g2 ∨ k = w.heap.size + 1) wx w9 := (HTD.out.mono (fun _ _ h => .inl h)).trans tc (fun _ _ h => .inr h)
            refine ⟨[.slice A3 i k1, .slice A4 j k2], rfl, ⟨_, ys, _, zs, rfl, ?_, ?_, ?_, ?_⟩, hwf⟩
            · refine ⟨A3, i, k1, rfl, by rw [HYS.out.len, List.length_map, HNI.out], HM.out.c1.1, HM.out.c1.2, fun h0 => ⟨g1, 0, (HM.out.a1 h0).1, by have := (HM.out.a1 h0).2; omega, fun k v hv => ?_⟩⟩
              exact range_turn HRG.out tall (by have := HM.out.ne h0; omega) k v hv
            · exact HYS.out.imp fun _ _ h => (h.keep hwf).more hwf.size
            · refine ⟨A4, j, k2, rfl, by rw [HZS.out.len, List.length_map, HND.out], HM.out.c2.1, HM.out.c2.2, fun h0 => ⟨g2, 0, (HM.out.a2 h0).1, by have := (HM.out.a2 h0).2; omega, fun k v hv => ?_⟩⟩
              exact range_turn HRD.out tc (by omega) k v hv
            · exact HZS.out.imp fun _ _ h => (h.turn tc (fun k _ h e => by rcases h with ⟨_, h | h⟩ <;> omega)).de hwf
end Go.Proofs.YtbpedjkebemhnaaGreatDoor
end
section
/- An expression without places: the reference. -/
set_option linter.unusedVariables false
namespace Go.Proofs.YtbpedjkebemhnaaGreatDoor
open Go.RowKit

/-- An element of a row of nodes, from blocks of F. -/
theorem nodeG_at {w : World} {F : Nat → Prop} {A : Option Addr} {n c : Nat} {xk : List Value} {ks : List NoD} (h2 : SlG w F 8 (.slice A n c) xk) (hr : NosG w F xk ks) {i : Nat} (hi : i < ks.length) (hn : n = ks.length) :
    ∃ b o k s v2 v3 v4 A1 n1 c1 A2 n2 c2 A3 n3 c3, A = some ⟨b, o, none⟩ ∧ NoG w F [.int .i64 k, .string s, .int .i64 v2, .int .i64 v3, .int .i64 v4, .slice A1 n1 c1, .slice A2 n2 c2, .slice A3 n3 c3] ks[i] ∧
      w.cell? ⟨b, o + i * 8, none⟩ = some (.int .i64 k) ∧ w.cell? ⟨b, o + i * 8 + 1, none⟩ = some (.string s) ∧ w.cell? ⟨b, o + i * 8 + 2, none⟩ = some (.int .i64 v2) ∧ w.cell? ⟨b, o + i * 8 + 3, none⟩ = some (.int .i64 v3) ∧ w.cell? ⟨b, o + i * 8 + 4, none⟩ = some (.int .i64 v4) ∧
      w.cell? ⟨b, o + i * 8 + 5, none⟩ = some (.slice A1 n1 c1) ∧ w.cell? ⟨b, o + i * 8 + 6, none⟩ = some (.slice A2 n2 c2) ∧ w.cell? ⟨b, o + i * 8 + 7, none⟩ = some (.slice A3 n3 c3) := by
  subst hn
  obtain ⟨b1, o1, rfl, hb1, hc1⟩ := t_sl_in h2.all hi (by omega)
  have hr1 := hr.at i hi
  obtain ⟨kk, s, v2, v3, v4, A1, n1, c1, A2, n2, c2, A3, n3, c3, hv1⟩ := hr1.all.shape
  rw [hv1] at hr1
  refine ⟨b1, o1, kk, s, v2, v3, v4, A1, n1, c1, A2, n2, c2, A3, n3, c3, rfl, hr1, ?_, ?_, ?_, ?_, ?_, ?_, ?_, ?_⟩
  · have := hc1 0 _ (t_part hv1 (by omega : 0 < 8)); simpa using this
  · have := hc1 1 _ (t_part hv1 (by omega : 1 < 8)); simpa [Nat.add_assoc] using this
  · have := hc1 2 _ (t_part hv1 (by omega : 2 < 8)); simpa [Nat.add_assoc] using this
  · have := hc1 3 _ (t_part hv1 (by omega : 3 < 8)); simpa [Nat.add_assoc] using this
  · have := hc1 4 _ (t_part hv1 (by omega : 4 < 8)); simpa [Nat.add_assoc] using this
  · have := hc1 5 _ (t_part hv1 (by omega : 5 < 8)); simpa [Nat.add_assoc] using this
  · have := hc1 6 _ (t_part hv1 (by omega : 6 < 8)); simpa [Nat.add_assoc] using this
  · have := hc1 7 _ (t_part hv1 (by omega : 7 < 8)); simpa [Nat.add_assoc] using this
/-- The blocks of F, and what is new behind base, but not the row that v lies in. -/
def But (F : Nat → Prop) (base : Nat) (v : Value) : Nat → Prop := fun j => v.ownBlock ≠ some j ∧ (F j ∨ base ≤ j)
theorem nos_round {F : Nat → Prop} {base n : Nat} {wr w6 w7 : World} {v v7 : Value} {e : TypeId} {ys z2 : List Value} {l : List NoD} {x : NoD} {o : Obj} (hF : ∀ j, F j → j < base) (hys : NosG wr (But F base v) ys l) (hown : wr.ownsRow base e 8 v n ys) (hbase : base ≤ wr.heap.size) (hb : Below wr.heap.size wr w6)
    (hz : NoG w6 (fun j => F j ∨ wr.heap.size ≤ j) z2 x) (hg : (w6.alloc o).grownBy w7 v.ownBlock) (hbk : v7.ownBlock = v.ownBlock ∨ v7.ownBlock = some (w6.alloc o).heap.size) : NosG w7 (But F base v7) (ys ++ z2) (l ++ [x]) := by
  have hlt := hown.lt
  have hs6 := hb.size
  have t7 : Turn (fun j => v.ownBlock = some j) w6 w7 := ((Turn.alloc (fun j => v.ownBlock = some j) w6 o)).trans (Turn.of_grown hg (fun k h => h)) (fun _ _ h => h)
  have h1 : NosG wr (fun j => j < wr.heap.size ∧ But F base v j) ys l := hys.mono fun j hj h => ⟨hj, h⟩
  have h2 : NosG w7 (fun j => j < wr.heap.size ∧ But F base v j) ys l := (h1.turn (Turn.of_below (F := fun _ => False) hb) (fun _ _ _ h => h)).turn t7 (fun j _ h e => h.2.1 e)
  have h3 : NoG w6 (fun j => j < w6.heap.size ∧ (F j ∨ wr.heap.size ≤ j)) z2 x := hz.mono fun j hj h => ⟨hj, h⟩
  have h4 : NoG w7 (fun j => j < w6.heap.size ∧ (F j ∨ wr.heap.size ≤ j)) z2 x := h3.turn t7 (fun j _ h e => by
    have := hlt j e
    rcases h.2 with h | h
    · have := hF j h; omega
    · omega)
  have sa : (w6.alloc o).heap.size = w6.heap.size + 1 := by simp
  have hA : NoG w7 (But F base v7) z2 x := h4.mono fun j _ h => ⟨fun e => by
      rcases hbk with hk | hk
      · rw [hk] at e
        have := hlt j e
        rcases h.2 with h | h
        · have := hF j h; omega
        · omega
      · rw [hk, sa] at e
        injection e with e
        have := h.1; omega, by
      rcases h.2 with h | h
      · exact .inl h
      · exact .inr (by omega)⟩
  have hB : NosG w7 (But F base v7) ys l := h2.mono fun j _ h => ⟨fun e => by
      rcases hbk with hk | hk
      · rw [hk] at e; exact h.2.1 e
      · rw [hk, sa] at e
        injection e with e
        have := h.1; omega, h.2.2⟩
  exact NosG.snoc hA hB
def RbareC (x : NoD) : Prop := ∀ (w : World) (z : List Value) (F : Nat → Prop), NoG w F z x → (∀ j, F j → j < w.heap.size) → cntN x ≤ 100000 →
  Calls Tryz.prog 60 #[.agg z.toArray] w fun e w' => ∃ z', e = .returned (.agg z'.toArray) ∧ NoG w' (fun j => F j ∨ w.heap.size ≤ j) z' (bareN x) ∧ Below w.heap.size w w'
set_option maxRecDepth 100000 in
set_option maxHeartbeats 8000000 in
theorem rbare_step (k : Int) (text : Bt) (n line col : Int) (ts : List TyD) (ns : List Bt) (ks : List NoD) (H : ∀ t ∈ ks, RbareC t) : RbareC (.mk k text n line col ts ns ks) := by
  intro w z F h1 hF hc
  obtain ⟨A1, c1, A2, c2, A3, c3, xt, xk, rfl, s1, r1, s2, s3, r3⟩ := h1.parts
  obtain ⟨W, hW⟩ : ∃ W, (w.alloc (.cells #[.int .i64 k, sv text, .int .i64 n, .int .i64 line, .int .i64 col, .slice A1 ts.length c1, .slice A2 ns.length c2, .slice A3 ks.length c3] 26)).alloc (.cells #[.int .i64 0, .string ⟨#[]⟩, .int .i64 0, .int .i64 0, .int .i64 0, .slice none 0 0, .slice none 0 0, .slice none 0 0] 26) = W := ⟨_, rfl⟩
  have hb2 : Below w.heap.size w W := by rw [← hW]; exact ((Below.refl _ _).alloc (Nat.le_refl _) _).alloc (by simp) _
  have hbx := two_new w (.cells #[.int .i64 k, sv text, .int .i64 n, .int .i64 line, .int .i64 col, .slice A1 ts.length c1, .slice A2 ns.length c2, .slice A3 ks.length c3] 26) (.cells #[.int .i64 0, .string ⟨#[]⟩, .int .i64 0, .int .i64 0, .int .i64 0, .slice none 0 0, .slice none 0 0, .slice none 0 0] 26)
  rw [hW] at hbx
  have sW : W.heap.size = w.heap.size + 2 := by rw [← hW]; simp
  have hkl := cntNs_len ks
  rw [cntN] at hc
  obtain ⟨m, hm⟩ : ∃ m, ks.length = m := ⟨_, rfl⟩
  rw [hm] at hbx hW hkl s3
  have HM := hid hm
  have hmb : m ≤ 100000 := by omega
  obtain ⟨W4, hW4⟩ : ∃ W4, (W.setCell ⟨w.heap.size, 3, none⟩ (.int .i64 0)).setCell ⟨w.heap.size, 4, none⟩ (.int .i64 0) = W4 := ⟨_, rfl⟩
  have hx4 : W4.heap[w.heap.size]? = some (.cells #[.int .i64 k, sv text, .int .i64 n, .int .i64 0, .int .i64 0, .slice A1 ts.length c1, .slice A2 ns.length c2, .slice A3 m c3] 26 (0, 0)) := by
    rw [← hW4]; exact heap_setCell_same _ _ 4 _ _ _ (heap_setCell_same _ _ 3 _ _ _ hbx.1)
  have t34 : Turn (fun j => j = w.heap.size) W W4 := by
    rw [← hW4]; exact (turn_set _ _ _ _).trans (turn_set _ _ _ _) (fun _ _ h => h)
  have sW4 : W4.heap.size = w.heap.size + 2 := by rw [← hW4]; simp [sW]
  have hy4 := (t34.block (block_lt hbx.2) (by omega)).trans hbx.2
  have hw4 : Below w.heap.size w W4 := hb2.trans (t34.below (by omega) (fun j hj => by omega))
  obtain ⟨x0, x1, x2, x3, x4, x5, x6, x7⟩ := t_row8 hbx.1
  have z0 : ∀ i, W.frozen? ⟨w.heap.size, i, none⟩ = false := fun i => frozen_of_row _ _ _ _ _ hbx.1
  have tw4 : Turn (fun _ => False) w W4 := Turn.of_below hw4
  have HS1 := hid (s1.turn tw4 (fun _ _ _ h => h))
  have HR1 := hid (r1.turn tw4 (fun _ _ _ h => h))
  have HS2 := hid (s2.turn tw4 (fun _ _ _ h => h))
  have HS3 := hid (s3.turn tw4 (fun _ _ _ h => h))
  have HR3 := hid (r3.turn tw4 (fun _ _ _ h => h))
  have l3 := (t_sl_len s3.all).2
  have HH := hid H
  have HF : Hid (∀ j, F j → j < W4.heap.size) := hid (fun j h => by have := hF j h; omega)
  have HFw := hid hF
  have HC := hid hc
  have HX4 := hid hx4
  have HY4 := hid hy4
  have HW4 := hid hw4
  rw [hm]
  clear h1 s1 s2 s3 r1 r3 hbx hb2 H hF hc hx4 hy4 t34 hw4 tw4 hm
  go_enter Tryz.func60, Tryz.ntmps60
  go_wp2_with fail
  clear x0 x1 x2 x3 x4 x5 x6 x7 z0 hW
  go_loopw [3, 4] (fun v3 v4 wr => ∃ (i : Nat) (ys : List Value), v4 = .int .i64 i ∧ i ≤ m ∧ wr.ownsRow W4.heap.size 26 8 v3 i ys ∧ NosG wr (But F W4.heap.size v3) ys (bareNs (ks.take i)) ∧ Below W4.heap.size W4 wr) (fun _ v4 _ => m - (intOf v4).toNat)
  case atStart => exact ⟨0, [], rfl, by omega, World.ownsRow_nil _ _ _ _, .nil, Below.refl _ _⟩
  case round =>
    obtain ⟨i, ys, rfl, hi, hown, hys, hbr⟩ := hrel
    have hwl := hbr.size
    have hx5 := (hbr.block _ (block_lt HX4.out)).trans HX4.out
    have x7 := (t_row8 hx5).2.2.2.2.2.2.2
    by_cases hlt : i < m
    · have hil : i < ks.length := by rw [HM.out]; exact hlt
      obtain ⟨b1, o1, k1, s1, a1, a2, a3, P1, m1, e1, P2, m2, e2, P3, m3, e3, rfl, hz, d0, d1, d2, d3, d4, d5, d6, d7⟩ := nodeG_at (HS3.out.below hbr) (HR3.out.bel hbr) hil HM.out.symm
      have HCC := hid (HH.out _ (List.getElem_mem hil) wr _ F hz (fun j hj => by have := HFw.out j hj; omega) (by have := cntN_mem (List.getElem_mem hil); have := HC.out; omega))
      have hST : Hid (bareNs (ks.take (i + 1)) = bareNs (ks.take i) ++ [bareN ks[i]]) := hid (by rw [List.take_succ_eq_append_getElem hil, bareNs_map, bareNs_map, List.map_append]; rfl)
      have HOW := hid hown
      have HYS := hid hys
      have HBR := hid hbr
      clear hown hys hbr hz hx5
      go_wp2_with fail
      refine HCC.out.mono ?_
      rintro e w6 ⟨z2, rfl, hz2, hb⟩
      obtain ⟨k2, s2, a4, a5, a6, P4, m4, e4, P5, m5, e5, P6, m6, e6, rfl⟩ := hz2.all.shape
      have HZ2 := hid hz2
      have HB := hid hb
      have HO6 := hid (own_below HOW.out hb)
      have hxl := HOW.out.1
      have hb6 := hb.size
      clear hz2 hb
      go_wp2_with (at_builtin; go_must (refine wpList_app rfl (.tmp 14) (.tmp 21) _ rfl W4.heap.size el_node _ _ rfl rfl (HO6.out.alloc _) (sl_new w6 #[.int .i64 k2, .string s2, .int .i64 a4, .int .i64 a5, .int .i64 a6, .slice P4 m4 e4, .slice P5 m5 e5, .slice P6 m6 e6] 26 8 1 rfl (by decide)) (no_one HZ2.out) (by unfold maxLen; simp; omega) (by simp; omega) (le_alloc (by omega) _) (fun v7 w7 n7' hown7 hg7 hbk7 => ?_)); obtain ⟨Ax, nx, cx, rfl⟩ := own_shape0 hown7; have HO7 := hid hown7; have HN7 := hid (nos_round HF.out HYS.out HOW.out (by omega) HB.out HZ2.out hg7 hbk7); have HB7 := hid (below_app (((HBR.out.trans (HB.out.mono HBR.out.size))).alloc (by omega) _) (HO6.out.alloc _) hg7 (Nat.le_refl _) (le_alloc (by omega) _)); clear hown7 hg7 hbk7)
      go_roundw
      case rel =>
        obtain rfl : n7' = i + 1 := by have h := HO7.out.1; rw [List.length_append, hxl] at h; simp at h; omega
        exact ⟨i + 1, _, rfl, by omega, HO7.out, by rw [hST.out]; exact HN7.out, HB7.out⟩
      case measure => simp [intOf]; omega
    · obtain rfl : i = m := by omega
      obtain ⟨A9, c9, g, rfl, hc9, hm9, hbg, hA9, hrg, _⟩ := own_range hown (by omega)
      have hy5 := (hbr.block _ (block_lt HY4.out)).trans HY4.out
      obtain ⟨x0, x1, x2, x3, x4, x5, x6, _⟩ := t_row8 hx5
      obtain ⟨y0, y1, y2, y3, y4, y5, y6, y7⟩ := t_row8 hy5
      have z0 : ∀ j, wr.frozen? ⟨w.heap.size, j, none⟩ = false := fun j => frozen_of_row _ _ _ _ _ hx5
      have z1 : ∀ j, wr.frozen? ⟨w.heap.size + 1, j, none⟩ = false := fun j => frozen_of_row _ _ _ _ _ hy5
      have hwl4 := HW4.out.size
      rw [List.take_of_length_le (by rw [HM.out]; omega)] at hys
      have HYS := hid hys
      have HRG := hid hrg
      have HBR := hid hbr
      have HY5 := hid hy5
      obtain ⟨V, hV⟩ : ∃ V, wr.setCell ⟨w.heap.size, 7, none⟩ (.slice A9 i c9) = V := ⟨_, rfl⟩
      have tv : Turn (fun j => j = w.heap.size) wr V := by rw [← hV]; exact turn_set _ _ _ _
      have hx6 : V.heap[w.heap.size]? = some (.cells #[.int .i64 k, sv text, .int .i64 n, .int .i64 0, .int .i64 0, .slice A1 ts.length c1, .slice A2 ns.length c2, .slice A9 i c9] 26 (0, 0)) := by rw [← hV]; exact heap_setCell_same _ _ 7 _ _ _ hx5
      have hy6 := (tv.block (block_lt hy5) (by omega)).trans hy5
      clear x0 x1 x2 x3 x4 x5 x6 y0 y1 y2 y3 y4 y5 y6 y7 z1
      obtain ⟨x0, x1, x2, x3, x4, x5, x6, x8⟩ := t_row8 hx6
      obtain ⟨y0, y1, y2, y3, y4, y5, y6, y7⟩ := t_row8 hy6
      have z1 : ∀ j, V.frozen? ⟨w.heap.size + 1, j, none⟩ = false := fun j => frozen_of_row _ _ _ _ _ hy6
      have HY6 := hid hy6
      have HTV := hid tv
      have hvs := tv.size
      clear hys hrg hbr hy5 hy6 hx5 hx6 tv
      go_wp2_with fail
      have ec := heap_setCell_same _ _ 7 _ _ (.slice A9 i c9) (heap_setCell_same _ _ 6 _ _ (.slice A2 ns.length c2) (heap_setCell_same _ _ 5 _ _ (.slice A1 ts.length c1) (heap_setCell_same _ _ 4 _ _ (.int .i64 0) (heap_setCell_same _ _ 3 _ _ (.int .i64 0) (heap_setCell_same _ _ 2 _ _ (.int .i64 n) (heap_setCell_same _ _ 1 _ _ (sv text) (heap_setCell_same _ _ 0 _ _ (.int .i64 k) HY6.out)))))))
      have tc := (turn_set V (w.heap.size + 1) 0 (.int .i64 k)).trans ((turn_set _ (w.heap.size + 1) 1 (sv text)).trans ((turn_set _ (w.heap.size + 1) 2 (.int .i64 n)).trans ((turn_set _ (w.heap.size + 1) 3 (.int .i64 0)).trans ((turn_set _ (w.heap.size + 1) 4 (.int .i64 0)).trans ((turn_set _ (w.heap.size + 1) 5 (.slice A1 ts.length c1)).trans ((turn_set _ (w.heap.size + 1) 6 (.slice A2 ns.length c2)).trans (turn_set _ (w.heap.size + 1) 7 (.slice A9 i c9)) (fun _ _ h => h)) (fun _ _ h => h)) (fun _ _ h => h)) (fun _ _ h => h)) (fun _ _ h => h)) (fun _ _ h => h)) (fun _ _ h => h)
      refine bodyPost_ret (res_cell rfl rfl ec Tryz.underlying26 rfl (by kernel_rfl)) rfl ?_
      clear ec
      generalize hw9 : ((((((((V.setCell _ _).setCell _ _).setCell _ _).setCell _ _).setCell _ _).setCell _ _).setCell _ _).setCell _ _) = w9 at tc ⊢
      have tcs := tc.size
      have tall : Turn (fun j => j = w.heap.size ∨ j = w.heap.size + 1) wr w9 := (HTV.out.mono (fun _ _ h => .inl h)).trans tc (fun _ _ h => .inr h)
      have hwf : Below w.heap.size W4 w9 := (HBR.out.mono (by omega)).trans (tall.below (by omega) (fun j hj e => by omega))
      refine ⟨[.int .i64 k, sv text, .int .i64 n, .int .i64 0, .int .i64 0, .slice A1 ts.length c1, .slice A2 ns.length c2, .slice A9 i c9], rfl, ?_, HW4.out.trans hwf⟩
      have tf : Turn (fun j => w.heap.size ≤ j) W4 w9 := ⟨hwf.os, hwf.tape, hwf.output, hwf.size, fun j hj h => hwf.block j (by omega)⟩
      have hsub : ∀ j, j < w9.heap.size → F j → F j ∨ w.heap.size ≤ j := fun _ _ h => .inl h
      have hdis : ∀ j, j < W4.heap.size → F j → ¬ w.heap.size ≤ j := fun j _ h => by have := HFw.out j h; omega
      show NoG w9 (fun j => F j ∨ w.heap.size ≤ j) _ (.mk k text n 0 0 ts ns (bareNs ks))
      refine .mk ((HS1.out.turn tf hdis).mono hsub) ((HR1.out.turn tf hdis).mono hsub) ((HS2.out.turn tf hdis).mono hsub) (xk := ys) ?_ ?_
      · refine ⟨A9, i, c9, rfl, ?_, hc9, hm9, fun h0 => ⟨g, 0, (hA9 h0).1, .inr (by omega), by have := (hA9 h0).2; omega, range_turn HRG.out tall (by omega)⟩⟩
        rw [HYS.out.all.length, bareNs_map, List.length_map, HM.out]
      · exact (HYS.out.turn tall (fun j _ h e => by
          rcases h.2 with h2 | h2
          · have := HFw.out j h2; omega
          · omega)).mono fun j _ h => by
            rcases h.2 with h2 | h2
            · exact .inl h2
            · exact .inr (by omega)
theorem rbare_all (t : NoD) : RbareC t := by
  have h : ∀ (n : Nat) (t : NoD), SizeOf.sizeOf t ≤ n → RbareC t := by
    intro n
    induction n with
    | zero => intro t ht; cases t; simp at ht
    | succ n ih =>
      intro t ht
      obtain ⟨k, text, n1, line, col, ts, ns, ks⟩ := t
      refine rbare_step k text n1 line col ts ns ks fun x hx => ih x ?_
      have := List.sizeOf_lt_of_mem hx
      simp at ht; omega
  exact h _ t (Nat.le_refl _)
end Go.Proofs.YtbpedjkebemhnaaGreatDoor
end
