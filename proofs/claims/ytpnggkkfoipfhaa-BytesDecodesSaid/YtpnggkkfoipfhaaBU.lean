/- The reference's writing of bytes. -/
import Derived.Test.YtpnggkkfoipfhaaBT
set_option linter.unusedVariables false
namespace Go.Proofs.Ytpnggkkfoipfhaa
open Go.RowKit

/-- A row of bytes that grows: its blocks lie in F. -/
def RbAt (w : World) (base : Nat) (F : Nat → Prop) (v : Value) (b : Bt) : Prop := OwnB w 0 5 v b ∧ (∀ g, v.ownBlock = some g → F g) ∧ (∀ k, F k → base ≤ k ∧ k < w.heap.size) ∧ base ≤ w.heap.size
def RbTo (base : Nat) (F : Nat → Prop) (w w' : World) (v' : Value) (b' : Bt) : Prop := ∃ F', RbAt w' base F' v' b' ∧ Turn F w w' ∧ ∀ k, F' k → F k ∨ w.heap.size ≤ k
theorem RbTo.refl {base : Nat} {F : Nat → Prop} {w : World} {v : Value} {b : Bt} (h : RbAt w base F v b) : RbTo base F w w v b := ⟨F, h, Turn.refl _ _, fun k h => .inl h⟩
theorem RbTo.more {base : Nat} {F F1 : Nat → Prop} {w w1 w2 : World} {v2 : Value} {b2 : Bt} (t1 : Turn F w w1) (n1 : ∀ k, F1 k → F k ∨ w.heap.size ≤ k) (h : RbTo base F1 w1 w2 v2 b2) : RbTo base F w w2 v2 b2 := by
  obtain ⟨F2, g1, g2, g3⟩ := h
  refine ⟨F2, g1, t1.trans g2 (fun i hi hF => (n1 i hF).elim id (fun h => absurd h (by omega))), fun j hj => ?_⟩
  rcases g3 j hj with h | h
  · exact n1 j h
  · exact .inr (Nat.le_trans t1.size h)
theorem RbTo.first {base : Nat} {F : Nat → Prop} {w w1 w2 : World} {v2 : Value} {b2 : Bt} (hb : Below w.heap.size w w1) (k : RbTo base F w1 w2 v2 b2) : RbTo base F w w2 v2 b2 := by
  obtain ⟨F2, k1, k2, k3⟩ := k
  exact ⟨F2, k1, (Turn.of_below hb).trans k2 (fun _ _ h => h), fun j hj => (k3 j hj).imp id (fun h => Nat.le_trans hb.size h)⟩
theorem RbAt.below {w w' : World} {base : Nat} {F : Nat → Prop} {v : Value} {b : Bt} (h : RbAt w base F v b) (hb : Below w.heap.size w w') : RbAt w' base F v b :=
  ⟨h.1.below hb, h.2.1, fun k hk => ⟨(h.2.2.1 k hk).1, Nat.lt_of_lt_of_le (h.2.2.1 k hk).2 hb.size⟩, Nat.le_trans h.2.2.2 hb.size⟩
theorem RbTo.bel {base : Nat} {F : Nat → Prop} {w w' : World} {v v' : Value} {b b' : Bt} (h : RbAt w base F v b) (k : RbTo base F w w' v' b') : Below base w w' := by
  obtain ⟨F2, k1, k2, k3⟩ := k
  exact k2.below h.2.2.2 (fun i hi hF => by have := (h.2.2.1 i hF).1; omega)
theorem rb_grown {w w5 w9 : World} {base : Nat} {F : Nat → Prop} {v v9 : Value} {b m : Bt} (h : RbAt w base F v b) (hb : Below w.heap.size w w5) (hg : w5.grownBy w9 v.ownBlock) (ho : OwnB w9 0 5 v9 m) (hbk : v9.ownBlock = v.ownBlock ∨ v9.ownBlock = some w5.heap.size) : RbTo base F w w9 v9 m := by
  obtain ⟨h1, h2, h3, h4⟩ := h
  have hs5 := hb.size
  have hs9 := hg.size
  refine ⟨fun k => F k ∨ v9.ownBlock = some k, ⟨ho, fun g hg => .inr hg, fun k hk => ?_, by omega⟩, (Turn.of_below hb).trans (Turn.of_grown hg (fun k hk => h2 k hk)) (fun _ _ h => h), fun k hk => ?_⟩
  · rcases hk with hk | hk
    · exact ⟨(h3 k hk).1, by have := (h3 k hk).2; omega⟩
    · refine ⟨?_, (ho.lt k hk).2⟩
      rcases hbk with h | h
      · exact (h3 k (h2 k (h ▸ hk))).1
      · rw [h] at hk; injection hk with hk; omega
  · rcases hk with hk | hk
    · exact .inl hk
    · rcases hbk with h | h
      · exact .inl (h2 k (h ▸ hk))
      · rw [h] at hk; injection hk with hk; exact .inr (by omega)

set_option maxHeartbeats 1000000 in
theorem rnum_any (w : World) (base : Nat) (F : Nat → Prop) (v : Value) (b : Bt) (n : Int) (hR : RbAt w base F v b) (hn : In64 n) (hlen : b.length + (putL n).length + 100 ≤ 140737488355000) :
    Calls Try.prog 26 #[v, .int .i64 n] w fun e w' => ∃ v', e = .returned v' ∧ RbTo base F w w' v' (b ++ putL n) := by
  have HP := hid (refput_any (.slice none 0 0) [] n w hn (Sl.nil _ _ _) (by decide))
  have HR := hid hR
  clear hR
  go_enter Try.func26, Try.ntmps26
  go_wp2_with fail
  refine HP.out.mono ?_
  rintro e w2 ⟨v2, rfl, hown2, hb2⟩
  rw [List.nil_append] at hown2
  have hr2 := HR.out.1.below hb2
  go_wp2_with (at_builtin; refine wpList_appB rfl (.tmp 8) (.tmp 9) _ rfl 0 el_byte v v2 rfl rfl hr2 hown2.bs (by omega) (Nat.zero_le _) (fun v9 w9 hown9 hg9 hbk9 => ?_); have hto9 := rb_grown HR.out hb2 hg9 hown9 hbk9; clear hg9 hown9 hbk9)
  go_ret
  exact ⟨v9, rfl, hto9⟩
set_option maxHeartbeats 1000000 in
theorem rtext_any (w : World) (base : Nat) (F : Nat → Prop) (v : Value) (b : Bt) (s : Bt) (hR : RbAt w base F v b) (hs : In64 (s.length : Int)) (hlen : b.length + (textE s).length + 100 ≤ 140737488355000) :
    Calls Try.prog 48 #[v, sv s] w fun e w' => ∃ v', e = .returned v' ∧ RbTo base F w w' v' (b ++ textE s) := by
  have hsz := wr_sv_size s
  have hte : (textE s).length = (putL (s.length : Int)).length + s.length := by unfold textE; rw [List.length_append]
  have HN := hid (rnum_any w base F v b (s.length : Int) hR hs (by omega))
  clear hR
  go_enter Try.func48, Try.ntmps48
  go_wp2_with fail
  refine HN.out.mono ?_
  rintro e w2 ⟨v2, rfl, F2, hr2, t2, n2⟩
  have HR2 := hid hr2
  have hown2 := hr2.1
  have hbb : b ++ putL (s.length : Int) ++ s = b ++ textE s := by unfold textE; simp
  have HBB := hid hbb
  clear hr2 hbb HN
  go_wp2_with (at_builtin; refine wpList_appT rfl (.tmp 9) (.tmp 10) _ _ rfl 0 el_byte Try.underlying9 v2 (b ++ putL (s.length : Int)) s rfl hown2 rfl (by rw [List.length_append]; omega) (Nat.zero_le _) (fun v9 w9 hown9 hg9 hbk9 => ?_); have hto9 := RbTo.more t2 n2 (rb_grown HR2.out (Below.refl _ _) hg9 hown9 hbk9); clear hg9 hown9 hbk9)
  go_ret
  rw [HBB.out] at hto9
  exact ⟨v9, rfl, hto9⟩

set_option maxRecDepth 100000 in
set_option maxHeartbeats 2000000 in
theorem rtexts_any (w : World) (base : Nat) (F : Nat → Prop) (v0 : Value) (b : Bt) (v : Value) (l : List Bt) (hR : RbAt w base F v0 b) (hv : Ss w base v l) (hll : In64 (l.length : Int)) (hok : ∀ x ∈ l, In64 (x.length : Int)) (hlen : b.length + (listE textE l).length + 100 ≤ 140737488355000) :
    Calls Try.prog 27 #[v0, v] w fun e w' => ∃ v', e = .returned v' ∧ RbTo base F w w' v' (b ++ listE textE l) := by
  have hle : (listE textE l).length = (putL (l.length : Int)).length + (l.flatMap textE).length := by unfold listE; rw [List.length_append]
  have HN := hid (rnum_any w base F v0 b (l.length : Int) hR hll (by omega))
  have HV : Hid (Sl w base 1 v (svs l)) := hid hv
  obtain ⟨A, c, rfl, hn, hc, _⟩ := hv.open_
  unfold maxLen at hc
  clear hv
  have HR := hid hR
  have HOK := hid hok
  clear hR hok
  go_enter Try.func27, Try.ntmps27
  go_wp2_with fail
  refine HN.out.mono ?_
  rintro e w2 ⟨v2, rfl, hto⟩
  have hto0 : RbTo base F w w2 v2 (b ++ (putL (l.length : Int) ++ (l.take 0).flatMap textE)) := by simpa using hto
  have HTO0 := hid hto0
  clear hto hto0 HN
  go_wp2_with fail
  go_loopw [0, 5] (fun v0 v5 wr => ∃ k : Nat, v5 = .int .i64 k ∧ k ≤ l.length ∧ RbTo base F w wr v0 (b ++ (putL (l.length : Int) ++ (l.take k).flatMap textE))) (fun _ v5 _ => l.length - (intOf v5).toNat)
  case atStart => exact ⟨0, rfl, by omega, HTO0.out⟩
  case round =>
    obtain ⟨k, rfl, hk, hto⟩ := hrel
    by_cases hlt : k < l.length
    · have hbel := RbTo.bel HR.out hto
      obtain ⟨F1, hr1, t1, n1⟩ := hto
      obtain ⟨bx, off, rfl, hcell⟩ := sl_at HV.out hbel rfl hlt (by omega)
      have d1 : wr.cell? ⟨bx, off + k, none⟩ = some (sv l[k]) := by
        have := hcell 0 (sv l[k]) (by simp [svs, hlt])
        simpa using this
      clear hcell
      have hxok := HOK.out l[k] (List.getElem_mem hlt)
      have hst := enc_take textE hlt
      have hpt := enc_part textE hlt
      generalize l[k] = X at *
      obtain ⟨bk, hbk⟩ : ∃ bk, bk = b ++ (putL (l.length : Int) ++ (l.take k).flatMap textE) := ⟨_, rfl⟩
      have hbkl : bk.length = b.length + ((putL (l.length : Int)).length + ((l.take k).flatMap textE).length) := by rw [hbk, List.length_append, List.length_append]
      rw [← hbk] at hr1
      have fin : ∀ v10 w10, RbTo base F1 wr w10 v10 (bk ++ textE X) → ∃ k_1 : Nat, Value.int .i64 ((k : Int) + 1) = .int .i64 k_1 ∧ k_1 ≤ l.length ∧ RbTo base F w w10 v10 (b ++ (putL (l.length : Int) ++ (l.take k_1).flatMap textE)) := by
        intro v10 w10 h10
        refine ⟨k + 1, rfl, by omega, ?_⟩
        rw [hst, ← List.append_assoc (putL (l.length : Int)), ← List.append_assoc b, ← hbk]
        exact RbTo.more t1 n1 h10
      have FIN := hid fin
      clear fin hbk hst
      go_wp2_with fail
      refine (rtext_any wr base F1 _ bk X hr1 hxok (by omega)).mono ?_
      rintro e w10 ⟨v10, rfl, hto10⟩
      have FN := hid (FIN.out v10 w10 hto10)
      clear hto10
      go_wp2_with fail
      go_roundw
      case rel => exact FN.out
      case measure => simp [intOf]; omega
    · obtain rfl : k = l.length := by omega
      rw [List.take_length] at hto
      go_wp2_with fail
      go_ret
      exact ⟨_, rfl, hto⟩
end Go.Proofs.Ytpnggkkfoipfhaa
