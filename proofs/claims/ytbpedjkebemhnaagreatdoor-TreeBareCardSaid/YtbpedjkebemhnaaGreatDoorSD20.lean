/- ZG, YK, YS -/
import Derived.Test.YtbpedjkebemhnaaGreatDoorSD19
import Derived.Test.YtbpedjkebemhnaaGreatDoorSD06
import Derived.Test.YtbpedjkebemhnaaGreatDoorSD02
import Derived.Test.YtbpedjkebemhnaaGreatDoorSD09
set_option linter.unusedSimpArgs false
set_option linter.unusedVariables false
section
/- A module without places: the reference's Bare. -/
set_option linter.unusedVariables false
namespace Go.Proofs.YtbpedjkebemhnaaGreatDoor
open Go.RowKit

/-- A function that was made bare: its own parts lie in memory that was there, its body in blocks of G. -/
def BaG (w wr : World) (G : Nat → Prop) (z : List Value) (d : DeD) : Prop :=
  ∃ vv xv vt xt y, z = [sv d.name, .bool d.exp, vv, sv d.param, vt] ++ (y ++ [.int .i64 d.line, .int .i64 d.col]) ∧ Sl w w.heap.size 5 vv xv ∧ TRow (VaR w w.heap.size) 5 xv d.vars ∧ Sl w w.heap.size 4 vt xt ∧ TysR w w.heap.size xt d.types ∧ NoG wr G y d.body
theorem BaG.turn {w wr wr' : World} {z : List Value} {d : DeD} {F G : Nat → Prop} (h : BaG w wr F z d) (t : Turn G wr wr') (hd : ∀ j, j < wr.heap.size → F j → ¬ G j) : BaG w wr' F z d := by
  obtain ⟨vv, xv, vt, xt, y, e, h1, h2, h3, h4, h5⟩ := h
  exact ⟨vv, xv, vt, xt, y, e, h1, h2, h3, h4, h5.turn t hd⟩
theorem BaG.mono {w wr : World} {z : List Value} {d : DeD} {F G : Nat → Prop} (h : BaG w wr F z d) (hF : ∀ j, j < wr.heap.size → F j → G j) : BaG w wr G z d := by
  obtain ⟨vv, xv, vt, xt, y, e, h1, h2, h3, h4, h5⟩ := h
  exact ⟨vv, xv, vt, xt, y, e, h1, h2, h3, h4, h5.mono hF⟩
theorem BaG.de {w wr : World} {z : List Value} {d : DeD} {G : Nat → Prop} (h : BaG w wr G z d) (hb : Below w.heap.size w wr) : DeR wr wr.heap.size z d := by
  obtain ⟨vv, xv, vt, xt, y, e, h1, h2, h3, h4, h5⟩ := h
  exact ⟨vv, xv, vt, xt, y, e, Sl.more (Sl.below h1 hb) hb.size, h2.imp fun _ _ h => (h.keep hb).more hb.size, Sl.more (Sl.below h3 hb) hb.size, h4.far (Nat.le_refl _) hb, h5.all⟩
/-- One function more. -/
theorem ba_round {w wr w2 V7 w8 : World} {base b3 n bd : Nat} {v v7 : Value} {e : TypeId} {ys z2 : List Value} {vv vt : Value} {xv xt : List Value} {l : List DeD} {d : DeD} (hwb : w.heap.size ≤ b3) (hb3 : b3 < base) (hys : TRow (BaG w wr (But (· < w.heap.size) base v)) 15 ys l) (hown : wr.ownsRow base e 15 v n ys) (hbase : base ≤ wr.heap.size)
    (hbd : bd = wr.heap.size) (h2 : Turn (fun _ => False) wr w2) (hs2 : bd < w2.heap.size) (hz : NoG w2 (fun j => j < w.heap.size ∨ bd < j) z2 d.body) (t8 : Turn (fun j => j = bd ∨ v.ownBlock = some j ∨ j = b3) w2 w8) (hV : w2.heap.size ≤ V7.heap.size) (hbk : v7.ownBlock = v.ownBlock ∨ v7.ownBlock = some V7.heap.size)
    (s1 : Sl w w.heap.size 5 vv xv) (s2 : TRow (VaR w w.heap.size) 5 xv d.vars) (s3 : Sl w w.heap.size 4 vt xt) (s4 : TysR w w.heap.size xt d.types) {z : List Value} (hzz : z = [sv d.name, .bool d.exp, vv, sv d.param, vt] ++ (z2 ++ [.int .i64 d.line, .int .i64 d.col])) :
    TRow (BaG w w8 (But (· < w.heap.size) base v7)) 15 (ys ++ z) (l ++ [d]) := by
  have hlt := hown.lt
  have sz := h2.size
  refine TRow.app (trow_one ?_ ?_) (hys.imp fun _ _ h => ?_)
  · rw [hzz]
    have := hz.all.len
    simp only [List.length_append, List.length_cons, List.length_nil]; omega
  · refine ⟨vv, xv, vt, xt, z2, hzz, s1, s2, s3, s4, ?_⟩
    have h3 : NoG w2 (fun j => j < w2.heap.size ∧ (j < w.heap.size ∨ bd < j)) z2 d.body := hz.mono fun j hj h => ⟨hj, h⟩
    refine (h3.turn t8 (fun j _ h e => ?_)).mono fun j _ h => ⟨fun e => ?_, by rcases h.2 with h | h; exact .inl h; exact .inr (by omega)⟩
    · rcases e with e | e | e
      · rcases h.2 with h | h <;> omega
      · have := hlt j e
        rcases h.2 with h | h <;> omega
      · rcases h.2 with h | h <;> omega
    · rcases hbk with hk | hk
      · rw [hk] at e
        have := hlt j e
        rcases h.2 with h | h <;> omega
      · rw [hk] at e
        injection e with e
        omega
  · have h1 : BaG w wr (fun j => j < wr.heap.size ∧ But (· < w.heap.size) base v j) _ _ := h.mono fun j hj h => ⟨hj, h⟩
    refine ((h1.turn h2 (fun _ _ _ h => h)).turn t8 (fun j _ h e => ?_)).mono fun j _ h => ⟨fun e => ?_, h.2.2⟩
    · rcases e with e | e | e
      · omega
      · exact h.2.1 e
      · rcases h.2.2 with h | h <;> omega
    · rcases hbk with hk | hk
      · rw [hk] at e; exact h.2.1 e
      · rw [hk] at e
        injection e with e
        omega
theorem tys_five (a b c d : Value) (ha : a.oneCell' = true) (hb : b.oneCell' = true) (hc : c.oneCell' = true) (hd : d.oneCell' = true) : ∀ u ∈ #[a, b, c, d].toList, u.oneCell' = true := by
  intro u hu
  simp only [List.mem_cons, List.not_mem_nil, or_false] at hu
  rcases hu with rfl | rfl | rfl | rfl <;> assumption
set_option maxRecDepth 100000 in
set_option maxHeartbeats 8000000 in
theorem rtbare_any (m : MoD) (w : World) (z : List Value) (h1 : MoR w w.heap.size z m) (hni : m.imps.length ≤ 100000) (hnd : m.decls.length ≤ 100000) (hbo : ∀ d ∈ m.decls, cntN d.body ≤ 100000) :
    Calls Tryz.prog 28 #[.agg z.toArray] w fun e w' => ∃ z', e = .returned (.agg z'.toArray) ∧ MoR w' w'.heap.size z' (bareM m) ∧ Below w.heap.size w w' := by
  obtain ⟨A1, c1, A2, c2, xi, xd, rfl, s1, r1, s2, r2⟩ := h1.parts
  obtain ⟨W, hW⟩ : ∃ W, ((w.alloc (.cells #[.slice A1 m.imps.length c1, .slice A2 m.decls.length c2] 39)).alloc (.cells #[.slice none 0 0, .slice none 0 0] 39)).alloc (.cells #[.slice none 0 0, .slice none 0 0] 39) = W := ⟨_, rfl⟩
  have hb3 : Below w.heap.size w W := by rw [← hW]; exact (((Below.refl _ _).alloc (Nat.le_refl _) _).alloc (by simp) _).alloc (by simp; omega) _
  have sW : W.heap.size = w.heap.size + 3 := by rw [← hW]; simp
  have hbx : W.heap[w.heap.size]? = some (.cells #[.slice A1 m.imps.length c1, .slice A2 m.decls.length c2] 39 (0, 0)) := by
    rw [← hW]; exact block_turn (two_new w _ _).1 (Turn.alloc (fun _ => False) _ _) id
  have hby : W.heap[w.heap.size + 1]? = some (.cells #[.slice none 0 0, .slice none 0 0] 39 (0, 0)) := by
    rw [← hW]; exact block_turn (two_new w _ _).2 (Turn.alloc (fun _ => False) _ _) id
  have hbo3 : W.heap[w.heap.size + 2]? = some (.cells #[.slice none 0 0, .slice none 0 0] 39 (0, 0)) := by
    rw [← hW]
    have := heap_alloc_new ((w.alloc (.cells #[.slice A1 m.imps.length c1, .slice A2 m.decls.length c2] 39)).alloc (.cells #[.slice none 0 0, .slice none 0 0] 39)) (.cells #[.slice none 0 0, .slice none 0 0] 39)
    have hs : ((w.alloc (.cells #[.slice A1 m.imps.length c1, .slice A2 m.decls.length c2] 39)).alloc (.cells #[.slice none 0 0, .slice none 0 0] 39)).heap.size = w.heap.size + 2 := by simp
    rwa [hs] at this
  have HX := hid hbx
  have HY := hid hby
  have HO := hid hbo3
  have HW := hid hb3
  have HR1 := hid r1
  have HR2 := hid r2
  have HS1 := hid s1
  have HS2 := hid s2
  have HBO := hid hbo
  have l1 := (t_sl_len s1).2
  have l2 := (t_sl_len s2).2
  clear h1 s1 s2 r1 r2 hbx hby hbo3 hb3 hbo
  obtain ⟨ni, hnie⟩ : ∃ x, m.imps.length = x := ⟨_, rfl⟩
  obtain ⟨nd, hnde⟩ : ∃ x, m.decls.length = x := ⟨_, rfl⟩
  rw [hnie] at hW HX hni l1 HS1
  rw [hnde] at hW HX hnd l2 HS2
  rw [hnie, hnde]
  have HNI := hid hnie
  have HND := hid hnde
  have HWE := hid hW
  clear hnie hnde hW
  go_enter Tryz.func28, Tryz.ntmps28
  go_wp2_with fail
  rw [HWE.out]
  clear HWE
  go_loopw [4] (fun v4 wr => ∃ (i : Nat) (v : Value) (ys : List Value), v4 = .int .i64 i ∧ i ≤ ni ∧ wr.heap[w.heap.size + 1 + 1]? = some (.cells #[v, .slice none 0 0] 39 (0, 0)) ∧ wr.ownsRow W.heap.size 62 4 v i ys ∧ TRow (ImR w w.heap.size) 4 ys ((m.imps.take i).map bareI) ∧ Turn (fun k => k = w.heap.size + 1 + 1) W wr) (fun v4 _ => ni - (intOf v4).toNat)
  case atStart => exact ⟨0, _, [], rfl, by omega, HO.out, World.ownsRow_nil _ _ _ _, .nil, Turn.refl _ _⟩
  case round =>
    obtain ⟨i, v, ys, rfl, hi, hbo3, hown, hys, htu⟩ := hrel
    have hbx := (htu.block (block_lt HX.out) (by omega)).trans HX.out
    obtain ⟨x0, x1⟩ := t_row2 hbx
    have stz := htu.size
    have HWR : Hid (Below w.heap.size w wr) := hid (HW.out.trans (htu.below HW.out.size (fun k hk h => by omega)))
    by_cases hlt : i < ni
    · have hil : i < m.imps.length := by rw [HNI.out]; exact hlt
      obtain ⟨b, o, B1, e1, rfl, hss, d0, d1, d2, d3⟩ := imp_at HS1.out HR1.out hil HNI.out.symm
      have d0 := HWR.out.cell (p := ⟨b, o + i * 4, none⟩) (World.block_lt_of_cell? w _ d0) |>.trans d0
      have d1 := HWR.out.cell (p := ⟨b, o + i * 4 + 1, none⟩) (World.block_lt_of_cell? w _ d1) |>.trans d1
      have d2 := HWR.out.cell (p := ⟨b, o + i * 4 + 2, none⟩) (World.block_lt_of_cell? w _ d2) |>.trans d2
      have d3 := HWR.out.cell (p := ⟨b, o + i * 4 + 3, none⟩) (World.block_lt_of_cell? w _ d3) |>.trans d3
      obtain ⟨Av, nv, cv, rfl⟩ := own_shape0 hown
      have y0 : ∀ o, (wr.alloc o).cell? ⟨w.heap.size + 1 + 1, 0, none⟩ = some (.slice Av nv cv) := fun o => (t_row2 (block_turn hbo3 (Turn.alloc (fun _ => False) wr o) id)).1
      have hol := hown.lt
      have hxl := hown.1
      have HSS := hid hss
      have HB3 := hid hbo3
      have HOWN := hid hown
      have HYS := hid hys
      have HTU := hid htu
      obtain ⟨X, hX⟩ : ∃ X : Obj, X = .cells #[sv m.imps[i].from_, .slice B1 m.imps[i].names.length e1, .int .i64 0, .int .i64 0] 62 := ⟨_, rfl⟩
      have TU : Hid (Turn (fun k => (Value.slice Av nv cv).ownBlock = some k) wr ((wr.alloc X).alloc X)) := hid ((Turn.alloc _ _ _).trans (Turn.alloc _ _ _) (fun _ _ h => h))
      subst hX
      have hsn := sl_new (wr.alloc (.cells #[sv m.imps[i].from_, .slice B1 m.imps[i].names.length e1, .int .i64 0, .int .i64 0] 62)) #[sv m.imps[i].from_, .slice B1 m.imps[i].names.length e1, .int .i64 0, .int .i64 0] 62 4 1 rfl (by decide)
      rw [show (wr.alloc (.cells #[sv m.imps[i].from_, .slice B1 m.imps[i].names.length e1, .int .i64 0, .int .i64 0] 62)).heap.size = wr.heap.size + 1 by simp] at hsn
      have HSN := hid hsn
      have HNE : Hid (¬ (Value.slice Av nv cv).ownBlock = some (w.heap.size + 1 + 1)) := hid (fun e => by have := hol _ e; omega)
      have HOL := hid hol
      clear hss hbo3 hown hys htu hbx hol hsn
      go_wp2_with (at_builtin; go_must (refine wpList_app rfl (.tmp 24) (.tmp 26) _ rfl W.heap.size el_import _ _ rfl rfl ((HOWN.out.alloc _).alloc _) HSN.out (tys_five (sv m.imps[i].from_) (.slice B1 m.imps[i].names.length e1) (.int .i64 0) (.int .i64 0) rfl rfl rfl rfl) (by unfold maxLen; simp; omega) (by simp; omega) (by simp; omega) (fun v7 w7 n7' hown7 hg7 hbk7 => ?_)); obtain ⟨Ax, nx, cx, rfl⟩ := own_shape0 hown7; have HO7 := hid hown7; have HT7 := hid (TU.out.trans (Turn.of_grown (F := fun k => (Value.slice Av nv cv).ownBlock = some k) hg7 (fun k h => h)) (fun _ _ h => h)); have hb7 := block_turn HB3.out HT7.out HNE.out; obtain ⟨g0, g1⟩ := t_row2 hb7; have gz : ∀ k, w7.frozen? ⟨w.heap.size + 1 + 1, k, none⟩ = false := fun k => frozen_of_row _ _ _ _ _ hb7; have HB7 := hid hb7; clear hown7 hg7 hbk7 hb7)
      go_roundw
      case rel =>
        obtain rfl : n7' = i + 1 := by have h := HO7.out.1; rw [List.length_append, hxl] at h; simp at h; omega
        have hlt7 := HO7.out.lt
        refine ⟨i + 1, _, _, rfl, by omega, heap_setCell_same _ _ 0 _ _ _ HB7.out, own_turn HO7.out (turn_set _ _ _ _) (fun k h e => by have := hlt7 k h; omega), ?_, HTU.out.trans ((HT7.out.mono (G := fun k => (Value.slice Av nv cv).ownBlock = some k ∨ k = w.heap.size + 1 + 1) (fun _ _ h => .inl h)).trans (turn_set _ _ _ _) (fun _ _ h => .inr h)) (fun k hk h => by rcases h with h | h; have := HOL.out k h; omega; exact h)⟩
        rw [List.take_succ_eq_append_getElem hil, List.map_append]
        have hone : ImR w w.heap.size [sv m.imps[i].from_, .slice B1 m.imps[i].names.length e1, .int .i64 0, .int .i64 0] (bareI m.imps[i]) := ⟨_, rfl, HSS.out⟩
        exact TRow.app (trow_one rfl hone) HYS.out
      case measure => simp [intOf]; omega
    · obtain rfl : i = ni := by omega
      obtain ⟨Av, nv, cv, rfl⟩ := own_shape0 hown
      rw [List.take_of_length_le (by rw [HNI.out]; exact Nat.le_refl _)] at hys
      have HB3 := hid hbo3
      have HOWN := hid hown
      have HYS := hid hys
      have HBX := hid hbx
      have HYX := hid ((htu.block (block_lt HY.out) (by omega)).trans HY.out)
      clear hbo3 hown hys hbx htu
      obtain ⟨wx, rfl⟩ : ∃ x, x = wr := ⟨_, rfl⟩
      go_wp2_with fail
      clear x0 x1
      go_loopw [6] (fun v6 wr => ∃ (j : Nat) (v : Value) (zs : List Value), v6 = .int .i64 j ∧ j ≤ nd ∧ wr.heap[w.heap.size + 1 + 1]? = some (.cells #[.slice Av nv cv, v] 39 (0, 0)) ∧ wr.ownsRow wx.heap.size 65 15 v j zs ∧ TRow (BaG w wr (But (· < w.heap.size) wx.heap.size v)) 15 zs ((m.decls.take j).map bareD) ∧ Turn (fun k => k = w.heap.size + 1 + 1) wx wr) (fun v6 _ => nd - (intOf v6).toNat)
      case atStart => exact ⟨0, _, [], rfl, by omega, HB3.out, World.ownsRow_nil _ _ _ _, .nil, Turn.refl _ _⟩
      case round =>
        obtain ⟨j, v, zs, rfl, hj, hbo3, hown, hzs, htd⟩ := hrel
        have hbx := (htd.block (block_lt HBX.out) (by omega)).trans HBX.out
        obtain ⟨x0, x1⟩ := t_row2 hbx
        have sdz := htd.size
        have HWD : Hid (Below w.heap.size w wr) := hid (HWR.out.trans (htd.below HWR.out.size (fun k hk h => by omega)))
        obtain ⟨Aw, nw, cw, rfl⟩ := own_shape0 hown
        by_cases hlt : j < nd
        · have hjl : j < m.decls.length := by rw [HND.out]; exact hlt
          obtain ⟨b, o, z, rfl, _, hz, hcell0⟩ := row_at HS2.out HR2.out (by omega) hjl HND.out.symm
          obtain ⟨B1, e1, B2, e2, k, t, n, l, c, B3, n3, e3, B4, n4, e4, B5, n5, e5, xv, xt, rfl, q1, q2, q3, q4, q5⟩ := hz.parts
          have hcell : ∀ (i : Nat) u, ([sv m.decls[j].name, .bool m.decls[j].exp, .slice B1 m.decls[j].vars.length e1, sv m.decls[j].param, .slice B2 m.decls[j].types.length e2, .int .i64 k, .string t, .int .i64 n, .int .i64 l, .int .i64 c, .slice B3 n3 e3, .slice B4 n4 e4, .slice B5 n5 e5, .int .i64 m.decls[j].line, .int .i64 m.decls[j].col] : List Value)[i]? = some u → wr.cell? ⟨b, o + j * 15 + i, none⟩ = some u := fun i u h => by
            have := hcell0 i u h
            exact (HWD.out.cell (p := ⟨b, o + j * 15 + i, none⟩) (World.block_lt_of_cell? w _ this)).trans this
          have d0 : wr.cell? ⟨b, o + j * 15, none⟩ = some (sv m.decls[j].name) := hcell 0 _ rfl
          have d1 := hcell 1 _ rfl
          have d2 := hcell 2 _ rfl
          have d3 := hcell 3 _ rfl
          have d4 := hcell 4 _ rfl
          have d5 := hcell 5 _ rfl
          have d6 := hcell 6 _ rfl
          have d7 := hcell 7 _ rfl
          have d8 := hcell 8 _ rfl
          have d9 := hcell 9 _ rfl
          have d10 := hcell 10 _ rfl
          have d11 := hcell 11 _ rfl
          have d12 := hcell 12 _ rfl
          have d13 := hcell 13 _ rfl
          have d14 := hcell 14 _ rfl
          have hol := hown.lt
          have hxl := hown.1
          obtain ⟨U, hU⟩ : ∃ U, wr.alloc (.cells #[sv m.decls[j].name, .bool m.decls[j].exp, .slice B1 m.decls[j].vars.length e1, sv m.decls[j].param, .slice B2 m.decls[j].types.length e2, .int .i64 k, .string t, .int .i64 n, .int .i64 l, .int .i64 c, .slice B3 n3 e3, .slice B4 n4 e4, .slice B5 n5 e5, .int .i64 0, .int .i64 0] 65) = U := ⟨_, rfl⟩
          have sU : U.heap.size = wr.heap.size + 1 := by rw [← hU]; simp
          have tU : Turn (fun _ => False) wr U := by rw [← hU]; exact Turn.alloc _ _ _
          have hbd : U.heap[wr.heap.size]? = some (.cells #[sv m.decls[j].name, .bool m.decls[j].exp, .slice B1 m.decls[j].vars.length e1, sv m.decls[j].param, .slice B2 m.decls[j].types.length e2, .int .i64 k, .string t, .int .i64 n, .int .i64 l, .int .i64 c, .slice B3 n3 e3, .slice B4 n4 e4, .slice B5 n5 e5, .int .i64 0, .int .i64 0] 65 (0, 0)) := by rw [← hU]; exact heap_alloc_new _ _
          have HBODY := hid (rbare_all m.decls[j].body U _ (· < w.heap.size) (((NoG.of q5 (Nat.le_refl _)).turn (Turn.of_below (F := fun _ => False) HWD.out) (fun _ _ _ h => h)).turn tU (fun _ _ _ h => h)) (fun k hk => by have := HWD.out.size; omega) (HBO.out _ (List.getElem_mem hjl)))
          have HP := hid (And.intro q1 (And.intro q2 (And.intro q3 q4)))
          have HZS := hid hzs
          have HB4 := hid hbo3
          have HOW := hid hown
          have HTD := hid htd
          have HBD := hid hbd
          have HTU := hid tU
          have HUE := hid hU
          clear hzs hbo3 hown htd hbx hcell hcell0 hz q1 q2 q3 q4 q5 hbd tU hU
          go_wp2_with fail
          rw [HUE.out]
          refine HBODY.out.mono ?_
          rintro e w2 ⟨z2, rfl, hz2, hb⟩
          have t2 : Turn (fun _ => False) U w2 := Turn.of_below hb
          have hbd2 := (hb.block _ (block_lt HBD.out)).trans HBD.out
          obtain ⟨p0, p1, p2, p3, p4, p5, p6, p7, p8, p9, p10, p11, p12, p13, p14⟩ := t_row15 hbd2
          have pz : ∀ i, w2.frozen? ⟨wr.heap.size, i, none⟩ = false := fun i => frozen_of_row _ _ _ _ _ hbd2
          obtain ⟨k2, s2, a4, a5, a6, P4, m4, e4', P5, m5, e5', P6, m6, e6', rfl⟩ := hz2.all.shape
          obtain ⟨V, hV⟩ : ∃ V, ((((((((w2.setCell ⟨wr.heap.size, 5, none⟩ (.int .i64 k2)).setCell ⟨wr.heap.size, 6, none⟩ (.string s2)).setCell ⟨wr.heap.size, 7, none⟩ (.int .i64 a4)).setCell ⟨wr.heap.size, 8, none⟩ (.int .i64 a5)).setCell ⟨wr.heap.size, 9, none⟩ (.int .i64 a6)).setCell ⟨wr.heap.size, 10, none⟩ (.slice P4 m4 e4')).setCell ⟨wr.heap.size, 11, none⟩ (.slice P5 m5 e5')).setCell ⟨wr.heap.size, 12, none⟩ (.slice P6 m6 e6')) = V := ⟨_, rfl⟩
          have hbV : V.heap[wr.heap.size]? = some (.cells #[sv m.decls[j].name, .bool m.decls[j].exp, .slice B1 m.decls[j].vars.length e1, sv m.decls[j].param, .slice B2 m.decls[j].types.length e2, .int .i64 k2, .string s2, .int .i64 a4, .int .i64 a5, .int .i64 a6, .slice P4 m4 e4', .slice P5 m5 e5', .slice P6 m6 e6', .int .i64 0, .int .i64 0] 65 (0, 0)) := by rw [← hV]; exact (heap_setCell_same _ _ 12 _ _ (.slice P6 m6 e6') (heap_setCell_same _ _ 11 _ _ (.slice P5 m5 e5') (heap_setCell_same _ _ 10 _ _ (.slice P4 m4 e4') (heap_setCell_same _ _ 9 _ _ (.int .i64 a6) (heap_setCell_same _ _ 8 _ _ (.int .i64 a5) (heap_setCell_same _ _ 7 _ _ (.int .i64 a4) (heap_setCell_same _ _ 6 _ _ (.string s2) (heap_setCell_same _ _ 5 _ _ (.int .i64 k2) hbd2))))))))
          have tV : Turn (fun k => k = wr.heap.size) w2 V := by rw [← hV]; exact ((((((((turn_set w2 wr.heap.size 5 _).trans (turn_set _ wr.heap.size 6 _) (fun _ _ h => h)).trans (turn_set _ wr.heap.size 7 _) (fun _ _ h => h)).trans (turn_set _ wr.heap.size 8 _) (fun _ _ h => h)).trans (turn_set _ wr.heap.size 9 _) (fun _ _ h => h)).trans (turn_set _ wr.heap.size 10 _) (fun _ _ h => h)).trans (turn_set _ wr.heap.size 11 _) (fun _ _ h => h)).trans (turn_set _ wr.heap.size 12 _) (fun _ _ h => h))
          obtain ⟨f0, f1, f2, f3, f4, f5, f6, f7, f8, f9, f10, f11, f12, f13, f14⟩ := t_row15 hbV
          have hb4 := block_turn (block_turn (block_turn HB4.out HTU.out id) t2 id) tV (by omega)
          obtain ⟨y0, y1⟩ := t_row2 hb4
          have TV : Hid (Turn (fun k => k = wr.heap.size) wr V) := hid (((HTU.out.trans t2 (fun _ _ h => h)).mono (fun _ _ h => h.elim)).trans tV (fun _ _ h => h))
          have HOV := hid (own_turn HOW.out TV.out (fun g h e => by have := hol g h; omega))
          have HB5 := hid hb4
          have HZ2 := hid hz2
          have HT2 := hid t2
          have HTV := hid tV
          have HNE : Hid (¬ (Value.slice Aw nw cw).ownBlock = some (w.heap.size + 1 + 1)) := hid (fun e => by have := hol _ e; omega)
          have HOL := hid hol
          have s2z := hb.size
          have sVz := tV.size
          clear hz2 hb t2 hbd2 hbV tV hb4 hol
          go_wp2_with (at_builtin; go_must (refine wpList_app rfl (.tmp 48) (.tmp 50) _ rfl wx.heap.size el_decl _ _ rfl rfl (HOV.out.alloc _) (sl_new V #[sv m.decls[j].name, .bool m.decls[j].exp, .slice B1 m.decls[j].vars.length e1, sv m.decls[j].param, .slice B2 m.decls[j].types.length e2, .int .i64 k2, .string s2, .int .i64 a4, .int .i64 a5, .int .i64 a6, .slice P4 m4 e4', .slice P5 m5 e5', .slice P6 m6 e6', .int .i64 0, .int .i64 0] 65 15 1 rfl (by decide)) (by intro u hu; simp only [List.mem_cons, List.not_mem_nil, or_false] at hu; rcases hu with rfl | rfl | rfl | rfl | rfl | rfl | rfl | rfl | rfl | rfl | rfl | rfl | rfl | rfl | rfl <;> rfl) (by unfold maxLen; simp; omega) (by simp; omega) (by simp; omega) (fun v7 w7 n7' hown7 hg7 hbk7 => ?_)); obtain ⟨Ax, nx, cx, rfl⟩ := own_shape0 hown7; have HO7 := hid hown7; have HT7 := hid ((Turn.alloc (fun k => (Value.slice Aw nw cw).ownBlock = some k) V _).trans (Turn.of_grown (F := fun k => (Value.slice Aw nw cw).ownBlock = some k) hg7 (fun k h => h)) (fun _ _ h => h)); have hb7 := block_turn HB5.out HT7.out HNE.out; obtain ⟨g0, g1⟩ := t_row2 hb7; have gz : ∀ k, w7.frozen? ⟨w.heap.size + 1 + 1, k, none⟩ = false := fun k => frozen_of_row _ _ _ _ _ hb7; have HB7 := hid hb7; have HK7 := hid hbk7; clear hown7 hg7 hbk7 hb7)
          go_roundw
          case rel =>
            obtain rfl : n7' = j + 1 := by have h := HO7.out.1; rw [List.length_append, hxl] at h; simp at h; omega
            have hlt7 := HO7.out.lt
            have t8 : Turn (fun k => k = wr.heap.size ∨ (Value.slice Aw nw cw).ownBlock = some k ∨ k = w.heap.size + 1 + 1) w2 (w7.setCell ⟨w.heap.size + 1 + 1, 1, none⟩ (.slice Ax nx cx)) := ((HTV.out.mono (fun _ _ h => .inl h)).trans HT7.out (fun _ _ h => .inr (.inl h))).trans (turn_set _ _ _ _) (fun _ _ h => .inr (.inr h))
            refine ⟨j + 1, _, _, rfl, by omega, heap_setCell_same _ _ 1 _ _ _ HB7.out, own_turn HO7.out (turn_set _ _ _ _) (fun k h e => by have := hlt7 k h; omega), ?_, HTD.out.trans (((TV.out.mono (G := fun k => k = wr.heap.size ∨ (Value.slice Aw nw cw).ownBlock = some k ∨ k = w.heap.size + 1 + 1) (fun _ _ h => .inl h)).trans HT7.out (fun _ _ h => .inr (.inl h))).trans (turn_set _ _ _ _) (fun _ _ h => .inr (.inr h))) (fun k hk h => by rcases h with h | h | h; omega; have := HOL.out k h; omega; exact h)⟩
            rw [List.take_succ_eq_append_getElem hjl, List.map_append]
            exact ba_round (d := bareD m.decls[j]) (by omega) (by omega) HZS.out HOW.out sdz rfl (HTU.out.trans HT2.out (fun _ _ h => h)) (by omega) (HZ2.out.mono (G := fun k => k < w.heap.size ∨ wr.heap.size < k) (fun k _ h => h.imp id (fun h => by omega))) t8 (by simp; omega) HK7.out HP.out.1 HP.out.2.1 HP.out.2.2.1 HP.out.2.2.2 rfl
          case measure => simp [intOf]; omega
        · obtain rfl : j = nd := by omega
          rw [List.take_of_length_le (by rw [HND.out]; exact Nat.le_refl _)] at hzs
          have hyd := (htd.block (block_lt HYX.out) (by omega)).trans HYX.out
          obtain ⟨r0, r1⟩ := t_row2 hyd
          obtain ⟨y0, y1⟩ := t_row2 hbo3
          have z1 : ∀ k, wr.frozen? ⟨w.heap.size + 1, k, none⟩ = false := fun k => frozen_of_row _ _ _ _ _ hyd
          have HYD := hid hyd
          have HZS := hid hzs
          have HOW := hid hown
          have HTD := hid htd
          clear hzs hown htd hbx hyd hbo3
          go_wp2_with fail
          have ec := heap_setCell_same _ _ 1 _ _ (.slice Aw nw cw) (heap_setCell_same _ _ 0 _ _ (.slice Av nv cv) HYD.out)
          have tc := (turn_set wr (w.heap.size + 1) 0 (.slice Av nv cv)).trans (turn_set _ (w.heap.size + 1) 1 (.slice Aw nw cw)) (fun _ _ h => h)
          refine bodyPost_ret (res_cell rfl rfl ec Tryz.underlying39 rfl (by kernel_rfl)) rfl ?_
          clear ec
          generalize hw9 : ((wr.setCell _ _).setCell _ _) = w9 at tc ⊢
          have hwf : Below w.heap.size w w9 := HWD.out.trans (tc.below HWD.out.size (fun k hk e => by omega))
          have ho1 := own_turn (own_turn HOWN.out HTD.out (fun g h e => by have := HOWN.out.lt g h; omega)) tc (fun g h e => by have := HOWN.out.lt g h; omega)
          have ho2 := own_turn HOW.out tc (fun g h e => by have := HOW.out.lt g h; omega)
          refine ⟨[.slice Av nv cv, .slice Aw nw cw], rfl, ⟨_, ys, _, zs, rfl, Sl.of_own ho1, ?_, Sl.of_own ho2, ?_⟩, hwf⟩
          · exact HYS.out.imp fun _ _ h => (h.keep hwf).more hwf.size
          · exact HZS.out.imp fun _ _ h => (h.turn tc (fun k _ h e => by rcases h with ⟨_, h | h⟩ <;> omega)).de hwf
end Go.Proofs.YtbpedjkebemhnaaGreatDoor
end
section
/- Two lists of texts: are they the same? Texts with commas between: the reference. -/
set_option linter.unusedVariables false
namespace Go.Proofs.YtbpedjkebemhnaaGreatDoor
open Go.RowKit

theorem texts_take {a b : List Bt} {i : Nat} (ha : i < a.length) (hb : i < b.length) (h : a.take i = b.take i) (h2 : a[i] = b[i]) : a.take (i + 1) = b.take (i + 1) := by
  rw [List.take_succ_eq_append_getElem ha, List.take_succ_eq_append_getElem hb, h, h2]
set_option maxRecDepth 100000 in
set_option maxHeartbeats 2000000 in
theorem texts_any (va vb : Value) (a b : List Bt) (w : World) (ha : Ss w w.heap.size va a) (hb : Ss w w.heap.size vb b) :
    Calls Tryz.prog 19 #[va, vb] w fun e w' => e = .returned (.bool (decide (a = b))) ∧ Below w.heap.size w w' := by
  have HA := hid ha
  have HB := hid hb
  obtain ⟨A, ca, rfl⟩ := t_sl_exact ha (by omega) (m := a.length) (by rw [svs_length]; omega)
  obtain ⟨B, cb, rfl⟩ := t_sl_exact hb (by omega) (m := b.length) (by rw [svs_length]; omega)
  have l1 := (t_sl_len ha).2
  have l2 := (t_sl_len hb).2
  clear ha hb
  by_cases hl : a.length = b.length
  case neg =>
    have g : ((a.length : Int) != (b.length : Int)) = true := by rw [bne_iff_ne]; omega
    have HR : Hid (decide (a = b) = false) := hid (decide_eq_false (fun h => hl (by rw [h])))
    clear hl
    go_enter Tryz.func19, Tryz.ntmps19
    go_wp2_with fail
    go_ret
    exact ⟨by rw [HR.out]; rfl, Below.refl _ _⟩
  obtain ⟨n, hn⟩ : ∃ n, a.length = n := ⟨_, rfl⟩
  have hm : b.length = n := by omega
  rw [hn] at HA l1
  rw [hm] at HB l2
  rw [hn, hm]
  have HN := hid hn
  have HM := hid hm
  clear hl hn hm
  go_enter Tryz.func19, Tryz.ntmps19
  go_wp2_with fail
  go_loopw [5] (fun v5 wr => ∃ i : Nat, v5 = .int .i64 i ∧ i ≤ n ∧ a.take i = b.take i ∧ Below w.heap.size w wr) (fun v5 _ => n - (intOf v5).toNat)
  case atStart => exact ⟨0, rfl, by omega, by simp, Below.refl _ _⟩
  case round =>
    obtain ⟨i, rfl, hi, heq, hbr⟩ := hrel
    have HE := hid heq
    have HBR := hid hbr
    clear heq
    by_cases hlt : i < n
    · have hia : i < a.length := by rw [HN.out]; exact hlt
      have hib : i < b.length := by rw [HM.out]; exact hlt
      obtain ⟨b1, o1, rfl, d0⟩ := text_at (Sl.below HA.out hbr) hia
      obtain ⟨b2, o2, rfl, d1⟩ := text_at (Sl.below HB.out hbr) hib
      have HNX : Hid (a[i] = b[i] → a.take (i + 1) = b.take (i + 1)) := hid (fun h => texts_take hia hib HE.out h)
      have HNE : Hid (¬ a[i] = b[i] → decide (a = b) = false) := hid (fun h => decide_eq_false (fun h2 => h (by subst h2; rfl)))
      have D0 := hid d0
      have D1 := hid d1
      have HB0 : Hid (Below wr.heap.size wr wr.drew) := hid (below_drawn wr 1)
      generalize a[i] = X at *
      generalize b[i] = Y at *
      clear hbr d0 d1
      by_cases hxy : X = Y
      · have H9 := hid (HNX.out hxy)
        subst hxy
        clear HNX HNE
        go_wp2_with fail
        refine wp_region_held_drew (S := fun w' => Below wr.heap.size wr w') (by kernel_rfl) HB0.out (fun _ => ?_)
        try simp only [Act.put, List.getElem_toArray, List.getElem_cons_zero, List.getElem_cons_succ, List.setIfInBounds_toArray, List.set_cons_zero, List.set_cons_succ]
        refine tk 0 (.slice (some ⟨b1, o1, none⟩) n ca) HB0.out ?_
        refine tk 1 (.int .i64 (i : Int)) HB0.out ?_
        refine tk 2 (.pointer (some ⟨b1, o1 + i, none⟩)) HB0.out ?_
        refine tkf 3 (sv X) (kp1 D0.out) HB0.out ?_
        refine tk 4 (.slice (some ⟨b2, o2, none⟩) n cb) HB0.out ?_
        refine tk 5 (.int .i64 (i : Int)) HB0.out ?_
        refine tk 6 (.pointer (some ⟨b2, o2 + i, none⟩)) HB0.out ?_
        refine tkf 7 (sv X) (kp1 D1.out) HB0.out ?_
        refine tk 8 (.bool false) HB0.out ?_
        refine wpAnyH_done (by kernel_rfl) ?_ _
        go_wp2_with fail
        go_roundw
        case rel => exact ⟨i + 1, rfl, by omega, H9.out, HBR.out.trans (HB0.out.mono HBR.out.size)⟩
        case measure => simp [intOf]; omega
      · have g : (X != Y) = true := by rw [bne_iff_ne]; exact hxy
        have H9 := hid (HNE.out hxy)
        go_wp2_with fail
        refine wp_region_held_drew (S := fun w' => Below wr.heap.size wr w') (by kernel_rfl) HB0.out (fun _ => ?_)
        try simp only [Act.put, List.getElem_toArray, List.getElem_cons_zero, List.getElem_cons_succ, List.setIfInBounds_toArray, List.set_cons_zero, List.set_cons_succ]
        refine tk 0 (.slice (some ⟨b1, o1, none⟩) n ca) HB0.out ?_
        refine tk 1 (.int .i64 (i : Int)) HB0.out ?_
        refine tk 2 (.pointer (some ⟨b1, o1 + i, none⟩)) HB0.out ?_
        refine tkf 3 (sv X) (kp1 D0.out) HB0.out ?_
        refine tk 4 (.slice (some ⟨b2, o2, none⟩) n cb) HB0.out ?_
        refine tk 5 (.int .i64 (i : Int)) HB0.out ?_
        refine tk 6 (.pointer (some ⟨b2, o2 + i, none⟩)) HB0.out ?_
        refine tkf 7 (sv Y) (kp1 D1.out) HB0.out ?_
        refine tk 8 (.bool true) HB0.out ?_
        refine wpAnyH_done (by kernel_rfl) ?_ _
        go_wp2_with fail
        go_ret
        exact ⟨by rw [H9.out]; rfl, HBR.out.trans (HB0.out.mono HBR.out.size)⟩
    · obtain rfl : i = n := by omega
      have H9 : Hid (decide (a = b) = true) := hid (decide_eq_true (by
        have h := HE.out
        rw [List.take_of_length_le (by rw [HN.out]; omega), List.take_of_length_le (by rw [HM.out]; omega)] at h
        exact h))
      clear hbr hlt
      go_wp2_with fail
      go_ret
      exact ⟨by rw [H9.out]; rfl, HBR.out⟩
end Go.Proofs.YtbpedjkebemhnaaGreatDoor
end
section
/- Types, nodes, functions, modules that say the same: the law finds them the same. -/
set_option linter.unusedVariables false
namespace Go.Proofs.YtbpedjkebemhnaaGreatDoor
open Go.RowKit

def SameT (t : TyD) : Prop := ∀ (w : World) (z1 z2 : List Value), TyR w w.heap.size z1 t → TyR w w.heap.size z2 t →
  Calls Tryz.prog 104 #[.agg z1.toArray, .agg z2.toArray] w fun e w' => e = .returned (.bool true) ∧ Below w.heap.size w w'
theorem texts_eq (va vb : Value) (a : List Bt) (w : World) (ha : Ss w w.heap.size va a) (hb : Ss w w.heap.size vb a) :
    Calls Tryz.prog 19 #[va, vb] w fun e w' => e = .returned (.bool true) ∧ Below w.heap.size w w' :=
  (texts_any va vb a a w ha hb).mono fun e w' h => ⟨by rw [h.1, decide_eq_true (Eq.refl a)], h.2⟩
set_option maxRecDepth 100000 in
set_option maxHeartbeats 4000000 in
theorem kinds_step (l : List TyD) (H : ∀ t ∈ l, SameT t) (w : World) (v1 v2 : Value) (x1 x2 : List Value) (h1 : Sl w w.heap.size 4 v1 x1) (r1 : TysR w w.heap.size x1 l) (h2 : Sl w w.heap.size 4 v2 x2) (r2 : TysR w w.heap.size x2 l) :
    Calls Tryz.prog 105 #[v1, v2] w fun e w' => e = .returned (.bool true) ∧ Below w.heap.size w w' := by
  obtain ⟨A1, c1, rfl⟩ := t_sl_exact h1 (by omega) (m := l.length) r1.length
  obtain ⟨A2, c2, rfl⟩ := t_sl_exact h2 (by omega) (m := l.length) r2.length
  have l1 := (t_sl_len h1).2
  have l2 := (t_sl_len h2).2
  have HS1 := hid h1
  have HS2 := hid h2
  have HR1 := hid r1
  have HR2 := hid r2
  have HH := hid H
  obtain ⟨n, hn⟩ : ∃ n, l.length = n := ⟨_, rfl⟩
  rw [hn] at HS1 HS2 l1 l2
  rw [hn]
  have HN := hid hn
  clear h1 h2 r1 r2 H hn
  go_enter Tryz.func105, Tryz.ntmps105
  go_wp2_with fail
  go_loopw [5] (fun v5 wr => ∃ i : Nat, v5 = .int .i64 i ∧ i ≤ n ∧ Below w.heap.size w wr) (fun v5 _ => n - (intOf v5).toNat)
  case atStart => exact ⟨0, rfl, by omega, Below.refl _ _⟩
  case round =>
    obtain ⟨i, rfl, hi, hbr⟩ := hrel
    have HBR := hid hbr
    by_cases hlt : i < n
    · have hil : i < l.length := by rw [HN.out]; exact hlt
      obtain ⟨b1, o1, k1, s1, A3, n3, c3, A4, n4, c4, rfl, q1, d0, d1, d2, d3⟩ := elem_at (Sl.more (Sl.below HS1.out hbr) hbr.size) ((HR1.out.keep hbr).more hbr.size) hil HN.out.symm
      obtain ⟨b2, o2, k2, s2, A5, n5, c5, A6, n6, c6, rfl, q2, e0, e1, e2, e3⟩ := elem_at (Sl.more (Sl.below HS2.out hbr) hbr.size) ((HR2.out.keep hbr).more hbr.size) hil HN.out.symm
      have HC := hid (fun (w1 : World) (h : Below wr.heap.size wr w1) => HH.out _ (List.getElem_mem hil) w1 _ _ (q1.far (Nat.le_refl _) h) (q2.far (Nat.le_refl _) h))
      have D0 := hid d0
      have D1 := hid d1
      have D2 := hid d2
      have D3 := hid d3
      have E0 := hid e0
      have E1 := hid e1
      have E2 := hid e2
      have E3 := hid e3
      have HB0 : Hid (Below wr.heap.size wr wr.drew) := hid (below_drawn wr 1)
      clear q1 q2 d0 d1 d2 d3 e0 e1 e2 e3 hbr
      go_wp2_with fail
      refine wp_region_held_drew (S := fun w' => Below wr.heap.size wr w') (by kernel_rfl) HB0.out (fun _ => ?_)
      try simp only [Act.put, List.getElem_toArray, List.getElem_cons_zero, List.getElem_cons_succ, List.setIfInBounds_toArray, List.set_cons_zero, List.set_cons_succ]
      refine tk 0 (.slice (some ⟨b1, o1, none⟩) n c1) HB0.out ?_
      refine tk 1 (.int .i64 (i : Int)) HB0.out ?_
      refine tk 2 (.pointer (some ⟨b1, o1 + i * 4, none⟩)) HB0.out ?_
      refine tkf 3 (.agg #[.int .i64 k1, .string s1, .slice A3 n3 c3, .slice A4 n4 c4]) (kp4 D0.out D1.out D2.out D3.out) HB0.out ?_
      refine tk 4 (.slice (some ⟨b2, o2, none⟩) n c2) HB0.out ?_
      refine tk 5 (.int .i64 (i : Int)) HB0.out ?_
      refine tk 6 (.pointer (some ⟨b2, o2 + i * 4, none⟩)) HB0.out ?_
      refine tkf 7 (.agg #[.int .i64 k2, .string s2, .slice A5 n5 c5, .slice A6 n6 c6]) (kp4 E0.out E1.out E2.out E3.out) HB0.out ?_
      refine wpAnyH_ready (rs := [8]) (by kernel_rfl) (by simp) ?_
      refine AllReadyH.cons rfl (fun K hK => ?_) (AllReadyH.nil)
      go_simp
      refine (HC.out _ HB0.out).mono ?_
      rintro e w2 ⟨rfl, hb⟩
      have HB2 := hid (HB0.out.trans (hb.mono HB0.out.size))
      clear hb
      refine hK.out _ _ HB2.out (fun _ => ?_)
      clear hK K
      try simp only [Act.put, List.getElem_toArray, List.getElem_cons_zero, List.getElem_cons_succ, List.setIfInBounds_toArray, List.set_cons_zero, List.set_cons_succ]
      refine tk 9 (.bool true) HB2.out ?_
      refine wpAnyH_done (by kernel_rfl) ?_ _
      go_wp2_with fail
      go_roundw
      case rel => exact ⟨i + 1, rfl, by omega, HBR.out.trans (HB2.out.mono HBR.out.size)⟩
      case measure => simp [intOf]; omega
    · obtain rfl : i = n := by omega
      clear hbr hlt
      go_wp2_with fail
      go_ret
      exact ⟨rfl, HBR.out⟩
set_option maxRecDepth 100000 in
set_option maxHeartbeats 4000000 in
theorem one_step (k : Int) (nm : Bt) (ns : List Bt) (ks : List TyD) (H : ∀ t ∈ ks, SameT t) : SameT (.mk k nm ns ks) := by
  intro w z1 z2 h1 h2
  obtain ⟨A1, c1, A2, c2, xk, rfl, s1, s2, r2⟩ := h1.parts
  obtain ⟨A3, c3, A4, c4, xk', rfl, s3, s4, r4⟩ := h2.parts
  obtain ⟨W, hW⟩ : ∃ W, (w.alloc (.cells #[.int .i64 k, sv nm, .slice A1 ns.length c1, .slice A2 ks.length c2] 32)).alloc (.cells #[.int .i64 k, sv nm, .slice A3 ns.length c3, .slice A4 ks.length c4] 32) = W := ⟨_, rfl⟩
  have hb2 : Below w.heap.size w W := by rw [← hW]; exact ((Below.refl _ _).alloc (Nat.le_refl _) _).alloc (by simp) _
  have hbx := two_new w (.cells #[.int .i64 k, sv nm, .slice A1 ns.length c1, .slice A2 ks.length c2] 32) (.cells #[.int .i64 k, sv nm, .slice A3 ns.length c3, .slice A4 ks.length c4] 32)
  rw [hW] at hbx
  have HX := hid hbx.1
  have HY := hid hbx.2
  have HB2 := hid hb2
  have HT := hid (texts_eq _ _ ns W (Ss.more (s1.below hb2) hb2.size) (Ss.more (s3.below hb2) hb2.size))
  have HK := hid (fun (w1 : World) (h : Below W.heap.size W w1) => kinds_step ks H w1 _ _ _ _ (Sl.more (Sl.below (Sl.more (Sl.below s2 hb2) hb2.size) h) h.size) ((r2.far (Nat.le_refl _) hb2).far (Nat.le_refl _) h) (Sl.more (Sl.below (Sl.more (Sl.below s4 hb2) hb2.size) h) h.size) ((r4.far (Nat.le_refl _) hb2).far (Nat.le_refl _) h))
  have l1 := (t_sl_len s2).2
  generalize ns.length = n1 at *
  generalize ks.length = n2 at *
  clear h1 h2 s1 s2 s3 s4 r2 r4 hbx hb2
  have hsz : w.heap.size + 1 < W.heap.size := block_lt HY.out
  obtain ⟨x0, x1, x2, x3⟩ := t_row4 HX.out
  obtain ⟨y0, y1, y2, y3⟩ := t_row4 HY.out
  go_enter Tryz.func104, Tryz.ntmps104
  go_wp2_with fail
  refine HT.out.mono ?_
  rintro e w2 ⟨rfl, hb⟩
  have HB3 := hid hb
  have x0 := kb hb x0
  have x1 := kb hb x1
  have x3 := kb hb x3
  have y0 := kb hb y0
  have y1 := kb hb y1
  have y3 := kb hb y3
  clear hb
  go_wp2_with fail
  refine (HK.out _ HB3.out).mono ?_
  rintro e w3 ⟨rfl, hb⟩
  have HB4 := hid (HB3.out.trans (hb.mono HB3.out.size))
  have x0 := kb hb x0
  have x1 := kb hb x1
  have y0 := kb hb y0
  have y1 := kb hb y1
  clear hb
  go_wp2_with fail
  go_ret
  exact ⟨rfl, HB2.out.trans (HB4.out.mono HB2.out.size)⟩
theorem same_type (t : TyD) : SameT t := by
  have h : ∀ (n : Nat) (t : TyD), SizeOf.sizeOf t ≤ n → SameT t := by
    intro n
    induction n with
    | zero => intro t ht; cases t; simp at ht
    | succ n ih =>
      intro t ht
      obtain ⟨k, nm, ns, ks⟩ := t
      refine one_step k nm ns ks fun x hx => ih x ?_
      have := List.sizeOf_lt_of_mem hx
      simp at ht; omega
  exact h _ t (Nat.le_refl _)
theorem kinds_eq (l : List TyD) (w : World) (v1 v2 : Value) (x1 x2 : List Value) (h1 : Sl w w.heap.size 4 v1 x1) (r1 : TysR w w.heap.size x1 l) (h2 : Sl w w.heap.size 4 v2 x2) (r2 : TysR w w.heap.size x2 l) :
    Calls Tryz.prog 105 #[v1, v2] w fun e w' => e = .returned (.bool true) ∧ Below w.heap.size w w' := kinds_step l (fun t _ => same_type t) w v1 v2 x1 x2 h1 r1 h2 r2
def SameN (x : NoD) : Prop := ∀ (w : World) (z1 z2 : List Value), NoR w w.heap.size z1 x → NoR w w.heap.size z2 x →
  Calls Tryz.prog 106 #[.agg z1.toArray, .agg z2.toArray] w fun e w' => e = .returned (.bool true) ∧ Below w.heap.size w w'
set_option maxRecDepth 100000 in
set_option maxHeartbeats 4000000 in
theorem node_step (k : Int) (text : Bt) (n line col : Int) (ts : List TyD) (ns : List Bt) (ks : List NoD) (H : ∀ t ∈ ks, SameN t) : SameN (.mk k text n line col ts ns ks) := by
  intro w z1 z2 h1 h2
  obtain ⟨A1, c1, A2, c2, A3, c3, xt, xk, rfl, s1, r1, s2, s3, r3⟩ := h1.parts
  obtain ⟨A4, c4, A5, c5, A6, c6, xt', xk', rfl, s4, r4, s5, s6, r6⟩ := h2.parts
  obtain ⟨W, hW⟩ : ∃ W, (w.alloc (.cells #[.int .i64 k, sv text, .int .i64 n, .int .i64 line, .int .i64 col, .slice A1 ts.length c1, .slice A2 ns.length c2, .slice A3 ks.length c3] 26)).alloc (.cells #[.int .i64 k, sv text, .int .i64 n, .int .i64 line, .int .i64 col, .slice A4 ts.length c4, .slice A5 ns.length c5, .slice A6 ks.length c6] 26) = W := ⟨_, rfl⟩
  have hb2 : Below w.heap.size w W := by rw [← hW]; exact ((Below.refl _ _).alloc (Nat.le_refl _) _).alloc (by simp) _
  have hbx := two_new w (.cells #[.int .i64 k, sv text, .int .i64 n, .int .i64 line, .int .i64 col, .slice A1 ts.length c1, .slice A2 ns.length c2, .slice A3 ks.length c3] 26) (.cells #[.int .i64 k, sv text, .int .i64 n, .int .i64 line, .int .i64 col, .slice A4 ts.length c4, .slice A5 ns.length c5, .slice A6 ks.length c6] 26)
  rw [hW] at hbx
  have HX := hid hbx.1
  have HY := hid hbx.2
  have HB2 := hid hb2
  have HT := hid (texts_eq _ _ ns W (Ss.more (s2.below hb2) hb2.size) (Ss.more (s5.below hb2) hb2.size))
  have HK := hid (fun (w1 : World) (h : Below W.heap.size W w1) => kinds_eq ts w1 _ _ _ _ (Sl.more (Sl.below (Sl.more (Sl.below s1 hb2) hb2.size) h) h.size) ((r1.far (Nat.le_refl _) hb2).far (Nat.le_refl _) h) (Sl.more (Sl.below (Sl.more (Sl.below s4 hb2) hb2.size) h) h.size) ((r4.far (Nat.le_refl _) hb2).far (Nat.le_refl _) h))
  have HS3 := hid (Sl.more (Sl.below s3 hb2) hb2.size)
  have HS6 := hid (Sl.more (Sl.below s6 hb2) hb2.size)
  have HR3 := hid (r3.far (Nat.le_refl _) hb2)
  have HR6 := hid (r6.far (Nat.le_refl _) hb2)
  have HH := hid H
  have l1 := (t_sl_len s3).2
  have l2 := (t_sl_len s6).2
  obtain ⟨n4, hn4⟩ : ∃ x, ks.length = x := ⟨_, rfl⟩
  rw [hn4] at HX HY HS3 HS6 l1 l2 hW
  rw [hn4]
  have HN4 := hid hn4
  generalize ts.length = n2 at *
  generalize ns.length = n3 at *
  clear h1 h2 s1 s2 s3 s4 s5 s6 r1 r3 r4 r6 hbx hb2 H hn4
  have hsz : w.heap.size + 1 < W.heap.size := block_lt HY.out
  obtain ⟨x0, x1, x2, x3, x4, x5, x6, x7⟩ := t_row8 HX.out
  obtain ⟨y0, y1, y2, y3, y4, y5, y6, y7⟩ := t_row8 HY.out
  go_enter Tryz.func106, Tryz.ntmps106
  go_wp2_with fail
  refine HT.out.mono ?_
  rintro e w2 ⟨rfl, hb⟩
  have HB3 := hid hb
  have x0 := kb hb x0
  have y0 := kb hb y0
  have x1 := kb hb x1
  have y1 := kb hb y1
  have x2 := kb hb x2
  have y2 := kb hb y2
  have x3 := kb hb x3
  have y3 := kb hb y3
  have x4 := kb hb x4
  have y4 := kb hb y4
  have x5 := kb hb x5
  have y5 := kb hb y5
  have x7 := kb hb x7
  have y7 := kb hb y7
  clear hb
  go_wp2_with fail
  refine (HK.out _ HB3.out).mono ?_
  rintro e w3 ⟨rfl, hb⟩
  have HB4 := hid (HB3.out.trans (hb.mono HB3.out.size))
  have x0 := kb hb x0
  have y0 := kb hb y0
  have x1 := kb hb x1
  have y1 := kb hb y1
  have x2 := kb hb x2
  have y2 := kb hb y2
  have x3 := kb hb x3
  have y3 := kb hb y3
  have x4 := kb hb x4
  have y4 := kb hb y4
  have x7 := kb hb x7
  have y7 := kb hb y7
  clear hb
  go_wp2_with fail
  clear x0 x1 x2 x3 x4 x5 x6 y0 y1 y2 y3 y4 y5 y6
  go_loopw [7] (fun v7 wr => ∃ i : Nat, v7 = .int .i64 i ∧ i ≤ n4 ∧ Below W.heap.size W wr) (fun v7 _ => n4 - (intOf v7).toNat)
  case atStart => exact ⟨0, rfl, by omega, HB4.out⟩
  case round =>
    obtain ⟨i, rfl, hi, hbr⟩ := hrel
    have HBR := hid hbr
    have x7 := ((hbr.cell (p := ⟨w.heap.size, 7, none⟩) (by show w.heap.size < W.heap.size; omega)).trans (t_row8 HX.out).2.2.2.2.2.2.2)
    have y7 := ((hbr.cell (p := ⟨w.heap.size + 1, 7, none⟩) hsz).trans (t_row8 HY.out).2.2.2.2.2.2.2)
    by_cases hlt : i < n4
    · have hil : i < ks.length := by rw [HN4.out]; exact hlt
      obtain ⟨b1, o1, k1, s1, a1, a2, a3, P1, m1, e1, P2, m2, e2, P3, m3, e3, rfl, q1, d0, d1, d2, d3, d4, d5, d6, d7⟩ := node_at (Sl.more (Sl.below HS3.out hbr) hbr.size) ((HR3.out.keep hbr).more hbr.size) hil HN4.out.symm
      obtain ⟨b2, o2, k2, s2, a4, a5, a6, P4, m4, e4, P5, m5, e5, P6, m6, e6, rfl, q2, f0, f1, f2, f3, f4, f5, f6, f7⟩ := node_at (Sl.more (Sl.below HS6.out hbr) hbr.size) ((HR6.out.keep hbr).more hbr.size) hil HN4.out.symm
      have HC := hid (fun (w1 : World) (h : Below wr.heap.size wr w1) => HH.out _ (List.getElem_mem hil) w1 _ _ (q1.far (Nat.le_refl _) h) (q2.far (Nat.le_refl _) h))
      have D0 := hid d0
      have E0 := hid f0
      have D1 := hid d1
      have E1 := hid f1
      have D2 := hid d2
      have E2 := hid f2
      have D3 := hid d3
      have E3 := hid f3
      have D4 := hid d4
      have E4 := hid f4
      have D5 := hid d5
      have E5 := hid f5
      have D6 := hid d6
      have E6 := hid f6
      have D7 := hid d7
      have E7 := hid f7
      have X7 := hid x7
      have Y7 := hid y7
      have HB0 : Hid (Below wr.heap.size wr wr.drew) := hid (below_drawn wr 1)
      clear q1 q2 d0 d1 d2 d3 d4 d5 d6 d7 f0 f1 f2 f3 f4 f5 f6 f7 hbr
      go_wp2_with fail
      refine wp_region_held_drew (S := fun w' => Below wr.heap.size wr w') (by kernel_rfl) HB0.out (fun _ => ?_)
      try simp only [Act.put, List.getElem_toArray, List.getElem_cons_zero, List.getElem_cons_succ, List.setIfInBounds_toArray, List.set_cons_zero, List.set_cons_succ]
      refine tk 0 (.pointer (some ⟨w.heap.size, 7, none⟩)) HB0.out ?_
      refine tkf 1 (.slice (some ⟨b1, o1, none⟩) n4 c3) (kp1 X7.out) HB0.out ?_
      refine tk 2 (.int .i64 (i : Int)) HB0.out ?_
      refine tk 3 (.pointer (some ⟨b1, o1 + i * 8, none⟩)) HB0.out ?_
      refine tkf 4 (.agg #[.int .i64 k1, .string s1, .int .i64 a1, .int .i64 a2, .int .i64 a3, .slice P1 m1 e1, .slice P2 m2 e2, .slice P3 m3 e3]) (kp8 D0.out D1.out D2.out D3.out D4.out D5.out D6.out D7.out) HB0.out ?_
      refine tk 5 (.pointer (some ⟨w.heap.size + 1, 7, none⟩)) HB0.out ?_
      refine tkf 6 (.slice (some ⟨b2, o2, none⟩) n4 c6) (kp1 Y7.out) HB0.out ?_
      refine tk 7 (.int .i64 (i : Int)) HB0.out ?_
      refine tk 8 (.pointer (some ⟨b2, o2 + i * 8, none⟩)) HB0.out ?_
      refine tkf 9 (.agg #[.int .i64 k2, .string s2, .int .i64 a4, .int .i64 a5, .int .i64 a6, .slice P4 m4 e4, .slice P5 m5 e5, .slice P6 m6 e6]) (kp8 E0.out E1.out E2.out E3.out E4.out E5.out E6.out E7.out) HB0.out ?_
      refine wpAnyH_ready (rs := [10]) (by kernel_rfl) (by simp) ?_
      refine AllReadyH.cons rfl (fun K hK => ?_) (AllReadyH.nil)
      go_simp
      refine (HC.out _ HB0.out).mono ?_
      rintro e w2 ⟨rfl, hb⟩
      have HB2 := hid (HB0.out.trans (hb.mono HB0.out.size))
      clear hb
      refine hK.out _ _ HB2.out (fun _ => ?_)
      clear hK K
      try simp only [Act.put, List.getElem_toArray, List.getElem_cons_zero, List.getElem_cons_succ, List.setIfInBounds_toArray, List.set_cons_zero, List.set_cons_succ]
      refine tk 11 (.bool true) HB2.out ?_
      refine wpAnyH_done (by kernel_rfl) ?_ _
      go_wp2_with fail
      go_roundw
      case rel => exact ⟨i + 1, rfl, by omega, HBR.out.trans (HB2.out.mono HBR.out.size)⟩
      case measure => simp [intOf]; omega
    · obtain rfl : i = n4 := by omega
      clear hbr hlt
      go_wp2_with fail
      go_ret
      exact ⟨rfl, HB2.out.trans (HBR.out.mono HB2.out.size)⟩
theorem same_node (t : NoD) : SameN t := by
  have h : ∀ (n : Nat) (t : NoD), SizeOf.sizeOf t ≤ n → SameN t := by
    intro n
    induction n with
    | zero => intro t ht; cases t; simp at ht
    | succ n ih =>
      intro t ht
      obtain ⟨k, text, n1, line, col, ts, ns, ks⟩ := t
      refine node_step k text n1 line col ts ns ks fun x hx => ih x ?_
      have := List.sizeOf_lt_of_mem hx
      simp at ht; omega
  exact h _ t (Nat.le_refl _)
end Go.Proofs.YtbpedjkebemhnaaGreatDoor
end
