/- The laws of putting and reading back walked. -/
import Derived.Test.YtfgfafojmjbmbaaDoorWM
set_option linter.unusedVariables false
namespace Go.Proofs.YtfgfafojmjbmbaaDoor
open Go.RowKit

theorem putL_pos (n : Int) : 1 ≤ (putL n).length ∧ (putL n).length ≤ 10 := grp_length 9 (zz n)
/-- A store into bytes of the call's own. -/
theorem OwnB.set_ {w : World} {base : Nat} {e : TypeId} {g c : Nat} {l : List UInt8} (h : OwnB w base e (.slice (some ⟨g, 0, none⟩) l.length c) l) (j : Nat) (x : UInt8) :
    OwnB (w.setCell ⟨g, j, none⟩ (.int .u8 (x.toNat : Int))) base e (.slice (some ⟨g, 0, none⟩) l.length c) (l.set j x) ∧ w.grownBy (w.setCell ⟨g, j, none⟩ (.int .u8 (x.toNat : Int))) (some g) := by
  obtain ⟨n, h⟩ := h
  have hn : n = l.length := by have := h.1; rw [bv_length] at this; omega
  subst hn
  have hs := h.stored j (.int .u8 (x.toNat : Int))
  refine ⟨⟨l.length, ?_⟩, hs.2⟩
  have e : bv (l.set j x) = (bv l).set j (.int .u8 (x.toNat : Int)) := by unfold bv; rw [List.map_set]
  rw [e]; exact hs.1
theorem OwnB.form {w : World} {base : Nat} {e : TypeId} {v : Value} {l : List UInt8} (h : OwnB w base e v l) (hl : 0 < l.length) :
    ∃ g c, v = .slice (some ⟨g, 0, none⟩) l.length c ∧ base ≤ g ∧ g < w.heap.size ∧ l.length ≤ c ∧ c ≤ maxLen := by
  obtain ⟨n, h⟩ := h
  have hn : n = l.length := by have := h.1; rw [bv_length] at this; omega
  subst hn
  rcases h.2 with ⟨_, h0⟩ | ⟨g, cap, cur, hv, hb, hg, hc, hm, _⟩
  · omega
  · exact ⟨g, cap, hv, hb, (Array.getElem?_eq_some_iff.1 hg).1, hc, hm⟩
theorem OwnB.cell {w : World} {base : Nat} {e : TypeId} {g c : Nat} {l : List UInt8} (h : OwnB w base e (.slice (some ⟨g, 0, none⟩) l.length c) l) (j : Nat) (hj : j < l.length) : w.cell? ⟨g, j, none⟩ = some (.int .u8 (l[j].toNat : Int)) := by
  obtain ⟨n, h⟩ := h
  have hn : n = l.length := by have := h.1; rw [bv_length] at this; omega
  subst hn
  rw [h.cellAt j (by omega)]; exact bv_get l j hj
theorem OwnB.free {w : World} {base : Nat} {e : TypeId} {g c n : Nat} {l : List UInt8} (h : OwnB w base e (.slice (some ⟨g, 0, none⟩) n c) l) (j : Nat) : w.frozen? ⟨g, j, none⟩ = false := by
  obtain ⟨m, h⟩ := h
  have hn : m = n := by
    rcases h.2 with ⟨h', _⟩ | ⟨g', cap', cur, h', _⟩
    · simp at h'
    · simp only [Value.slice.injEq] at h'; exact h'.2.1.symm
  subst hn
  exact h.frozenAt j

def PutsRel (w : World) (base B : Nat) (g c L : Nat) (v10 : Value) (wr : World) : Prop :=
  ∃ (k : Nat) (l : List UInt8), v10 = .int .i64 k ∧ k ≤ L ∧ l.length = L ∧ OwnB wr base 5 (.slice (some ⟨g, 0, none⟩) l.length c) l ∧ Below B w wr

set_option maxRecDepth 100000 in
set_option maxHeartbeats 1000000 in
theorem wordPuts_any (v : Value) (l : List UInt8) (n : Int) (w : World) (hv : Bs w w.heap.size v l) (hl : l.length ≤ 140737488351232) (hn : In64 n) (hL : LaidW w) :
    Calls Tryd.prog 8 #[v, .int .i64 n] w fun e w' => e = .returned (.bool true) ∧ Below w.heap.size w w' := by
  have hp := putL_pos n
  obtain ⟨m, hm⟩ : ∃ m : List UInt8, l ++ putL n = m := ⟨_, rfl⟩
  have hm0 : 0 < m.length := by rw [← hm, List.length_append]; omega
  have HM := hid hm
  clear hm hp
  go_enter Tryd.func8, Tryd.ntmps8
  go_wp2_with fail
  refine (awake_any _ hL).mono ?_
  rintro e w1 ⟨rfl, hb1⟩
  have hv1 := (hv.below hb1).more hb1.size
  obtain ⟨A, c0, rfl, hlc, hcm, _⟩ := hv1.open_
  have HCM := hid hcm
  clear hlc hcm
  go_wp2_with (at_builtin; refine wpList_appB rfl _ _ _ rfl w1.heap.size el_byte _ _ rfl rfl (OwnB.nil _ _ _) hv1 (by simp; omega) (Nat.le_refl _) (fun v2 w2 hown2 hg2 hbk2 => ?_))
  have hb2 := below_appB (Below.refl w1.heap.size w1) (OwnB.nil w1 w1.heap.size 5) hg2 (Nat.le_refl _) (Nat.le_refl _)
  have hv2 := (hv1.below hb2).more hb2.size
  rw [List.nil_append] at hown2
  refine (put_any v2 l n _ hn hown2.bs (by omega)).mono ?_
  rintro e w3 ⟨v3, rfl, hown3, hb3⟩
  rw [HM.out] at hown3
  have hv3 := (hv2.below hb3).more hb3.size
  have hs3 := hown2.bs.below hb3
  go_wp2_with fail
  refine (refput_any _ l n _ hn hv3 (by omega)).mono ?_
  rintro e w4 ⟨v4, rfl, hown4, hb4⟩
  rw [HM.out] at hown4
  have hv4 := hv2.below (hb3.trans (hb4.mono hb3.size))
  have hs4 := hs3.below (hb4.mono hb3.size)
  have hx4 := hown3.below hb4
  have hc4 := run_string_of (P := Tryd.prog) hown4.bs 34 5 9 Tryd.underlying34 Tryd.underlying5 Tryd.underlying9
  have hc3 := run_string_of (P := Tryd.prog) hx4.bs 34 5 9 Tryd.underlying34 Tryd.underlying5 Tryd.underlying9
  obtain ⟨g, c3, rfl, hg, hg3, hc5, hc6⟩ := hx4.form hm0
  have HB4 := hid (bthen hb1 (bthen hb2 (bthen hb3 hb4)))
  have HV := hid hv4
  have HS := hid hs4
  have HX := hid hx4
  have hgw : w.heap.size ≤ g := Nat.le_trans hb1.size (Nat.le_trans hb2.size hg)
  have hle : w2.heap.size ≤ w4.heap.size := Nat.le_trans hb3.size hb4.size
  have HLE := hid (Nat.le_trans hb1.size hb2.size)
  unfold maxLen at hc6
  clear hb1 hb2 hb3 hb4 hv1 hv2 hv3 hs3 hown2 hown3 hown4 hg2 hbk2 hv4 hs4 hx4 hv hL
  go_wp2_with fail
  go_loopw [10] (fun v10 wr => PutsRel w4 w2.heap.size w2.heap.size g c3 m.length v10 wr) (fun v10 _ => m.length - (intOf v10).toNat)
  case atStart => exact ⟨0, m, rfl, Nat.zero_le _, rfl, HX.out, Below.refl _ _⟩
  case round =>
    obtain ⟨k, l2, rfl, hk, hl2, hown, hb⟩ := hrel
    have hcell : k < m.length → ∃ x : UInt8, wr.cell? ⟨g, k, none⟩ = some (.int .u8 (x.toNat : Int)) := fun h => ⟨l2[k], hown.cell k (by omega)⟩
    have hfree := hown.free k
    have HOWN := hid hown
    clear hown
    by_cases hlt : k < m.length
    · obtain ⟨x, hx⟩ := hcell hlt
      clear hcell
      go_wp2_with fail
      go_roundw
      case rel =>
        have hset := HOWN.out.set_ k (UInt8.ofNat ((x.toNat + 1) % 256))
        have e8 : ((UInt8.ofNat ((x.toNat + 1) % 256)).toNat : Int) = ((x.toNat : Int) + 1) % 256 := by rw [UInt8.toNat_ofNat']; omega
        rw [e8] at hset
        refine ⟨k + 1, l2.set k (UInt8.ofNat ((x.toNat + 1) % 256)), rfl, by omega, by rw [List.length_set]; exact hl2, by rw [List.length_set]; exact hset.1, hb.setCell hg _⟩
      case measure => simp [intOf]; omega
    · have hv5 := HV.out.below hb
      have hs5 := HS.out.below hb
      have hd1 := run_string_of (P := Tryd.prog) hv5 34 5 9 Tryd.underlying34 Tryd.underlying5 Tryd.underlying9
      have hd2 := run_string_of (P := Tryd.prog) hs5 34 5 9 Tryd.underlying34 Tryd.underlying5 Tryd.underlying9
      clear hv5 hs5 hc3 hc4 hcell
      go_wp2_with fail
      go_ret
      exact ⟨rfl, HB4.out.trans (hb.mono (Nat.le_trans (Nat.le_of_lt_succ (Nat.lt_succ_of_le (Nat.le_refl _))) HLE.out))⟩
end Go.Proofs.YtfgfafojmjbmbaaDoor
