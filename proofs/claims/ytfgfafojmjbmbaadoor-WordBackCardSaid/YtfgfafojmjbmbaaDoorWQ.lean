/- The law of reading back walked. -/
import Derived.Test.YtfgfafojmjbmbaaDoorWP
import Derived.Test.YtfgfafojmjbmbaaDoorPB
import Derived.Deep.RegionWith
import Derived.Deep.RegionHeld3
import Derived.Deep.RegionLaw
set_option linter.unusedVariables false
namespace Go.Proofs.YtfgfafojmjbmbaaDoor
open Go.RowKit

theorem get_low (l : List UInt8) : 0 ≤ (getV l).2 ∧ (getV l).2 ≤ l.length := by
  by_cases h : (getV l).2 = 0
  · omega
  · obtain ⟨k, h1, h2, h3, h4, _⟩ := put_get h
    omega

set_option maxRecDepth 100000 in
set_option maxHeartbeats 8000000 in
theorem wordBack_any (n : Int) (v : Value) (l : List UInt8) (x : Value) (m : List UInt8) (w : World) (hn : In64 n) (hv : Bs w w.heap.size v l) (hl : l.length ≤ 140737488351232)
    (hx : Bs w w.heap.size x m) (hm : m.length ≤ 140737488351232) (hL : LaidW w) :
    Calls Tryd.prog 13 #[.int .i64 n, v, x] w fun e w' => e = .returned (.bool true) ∧ Below w.heap.size w w' := by
  have hp := putL_pos n
  have hg := get_put hn l
  obtain ⟨p, hpp⟩ : ∃ p : List UInt8, putL n = p := ⟨_, rfl⟩
  rw [hpp] at hp hg
  obtain ⟨q, hqq⟩ : ∃ q : List UInt8, p ++ l = q := ⟨_, rfl⟩
  rw [hqq] at hg
  have hlow := get_low m
  have HP := hid hpp
  have HQ := hid hqq
  obtain ⟨hp1, hp2⟩ := hp
  obtain ⟨hl1, hl2⟩ := hlow
  obtain ⟨o, ho⟩ : ∃ o, (getV m).1 = o := ⟨_, rfl⟩
  obtain ⟨k, hk⟩ : ∃ k : Nat, (getV m).2 = k := ⟨((getV m).2).toNat, by omega⟩
  rw [hk] at hl1 hl2
  have HQL := hid (congrArg List.length hqq)
  clear hpp hqq
  go_enter Tryd.func13, Tryd.ntmps13
  go_wp2_with fail
  refine (awake_any _ hL).mono ?_
  rintro e w1 ⟨rfl, hb1⟩
  go_wp2_with fail
  refine (put_any _ [] n _ hn (Sl.nil _ _ _) (by decide)).mono ?_
  rintro e w2 ⟨v2, rfl, hown2, hb2⟩
  rw [List.nil_append, HP.out] at hown2
  have HB2 := hid (bthen hb1 hb2)
  have hv2 := (hv.below HB2.out).more HB2.out.size
  have hx2 := (hx.below HB2.out).more HB2.out.size
  clear hb1 hb2 hv hx hL
  obtain ⟨A, c0, rfl, _, _, _⟩ := hv2.open_
  obtain ⟨A1, c1, rfl, hx3, hx4, _⟩ := hx2.open_
  go_wp2_with (first
    | (at_builtin; refine wpList_appB rfl (.const (.slice none 0 0)) (.tmp 17) _ rfl w2.heap.size el_byte _ _ rfl rfl (OwnB.nil _ _ _) hown2.bs (by simp; omega) (Nat.le_refl _) (fun v3 w3 hown3 hg3 hbk3 => ?_); have hb3 := below_appB (Below.refl w2.heap.size w2) (OwnB.nil w2 w2.heap.size 5) hg3 (Nat.le_refl _) (Nat.le_refl _); have hv3 := hv2.below hb3)
    | (at_builtin; refine wpList_appB rfl (.tmp 18) (.tmp 19) _ rfl w2.heap.size el_byte _ _ rfl rfl hown3 hv3 (by simp; omega) hb3.size (fun v4 w4 hown4 hg4 hbk4 => ?_)))
  have hb4 := below_appB hb3 hown3 hg4 (Nat.le_refl _) hb3.size
  rw [List.nil_append, HQ.out] at hown4
  have hx5 := (hx2.below hb4).more hb4.size
  have hown5 := hown2.below hb4
  have HB4 := hid (bthen HB2.out hb4)
  have hbs4 := hown4.bs
  clear hb3 hb4 hv2 hx2 hown2 hg3 hbk3 hg4 hbk4 hv3 hown3 hown4 HB2
  refine (get_any v4 q _ hbs4).mono ?_
  rintro e w5 ⟨rfl, rfl⟩
  go_wp2_with fail
  refine (get_any _ m _ hx5).mono ?_
  rintro e w5 ⟨rfl, rfl⟩
  obtain ⟨A2, c2, hv22, _, _, _⟩ := hown5.bs.open_
  subst hv22
  go_wp2_with fail
  by_cases hk0 : k = 0
  · have hkb : ((k : Int) == 0) = true := by rw [beq_iff_eq]; omega
    clear hk0
    go_quiet (fail)
    go_wp2_with fail
    go_ret
    exact ⟨rfl, HB4.out.trans (below_drawn _ _)⟩
  · have hkb : ((k : Int) == 0) = false := by rw [beq_eq_false_iff_ne]; omega
    obtain ⟨k2, hk2, _, _, hkm, ho64, hpo⟩ := put_get (l := m) (by rw [hk]; omega)
    rw [ho] at ho64 hpo
    have hk3 : k2 = k := by omega
    rw [hk3] at hpo
    have hmk := hx5.take_ (k := k) (by omega)
    have HPO := hid hpo
    have hkc : (k : Int) ≤ c1 := by omega
    clear hk0 hk2 hk3 hpo hbs4 hkm
    have hd1 := run_string_of (P := Tryd.prog) (w := w4.drew) hmk 34 5 9 Tryd.underlying34 Tryd.underlying5 Tryd.underlying9
    have hmk1 : Bs w4.drew w4.heap.size (.slice A1 k c1) (m.take k) := hmk
    clear hmk
    refine wp_region_held_drew (S := fun _ => True) (by kernel_rfl) trivial (fun _ => ?_)
    refine wpAnyH_take (i := 0) (v := .int .i64 k) rfl (by kernel_rfl) (by kernel_rfl) (by kernel_rfl) (fun _ _ _ h => h) (Or.inl ⟨by rfl, by intro w hSw; go_simp⟩) trivial ?_
    try simp only [Act.put, List.getElem_toArray, List.getElem_cons_zero, List.getElem_cons_succ, List.setIfInBounds_toArray, List.set_cons_zero, List.set_cons_succ]
    refine wpAnyH_take (i := 1) (v := .bool false) rfl (by kernel_rfl) (by kernel_rfl) (by kernel_rfl) (fun _ _ _ h => h) (Or.inl ⟨by rfl, by intro w hSw; go_simp⟩) trivial ?_
    try simp only [Act.put, List.getElem_toArray, List.getElem_cons_zero, List.getElem_cons_succ, List.setIfInBounds_toArray, List.set_cons_zero, List.set_cons_succ]
    refine wpAnyH_take (i := 2) (v := .bool false) rfl (by kernel_rfl) (by kernel_rfl) (by kernel_rfl) (fun _ _ _ h => h) (Or.inl ⟨by rfl, by intro w hSw; go_simp⟩) trivial ?_
    try simp only [Act.put, List.getElem_toArray, List.getElem_cons_zero, List.getElem_cons_succ, List.setIfInBounds_toArray, List.set_cons_zero, List.set_cons_succ]
    refine wpAnyH_take (i := 3) (v := .int .i64 o) rfl (by kernel_rfl) (by kernel_rfl) (by kernel_rfl) (fun _ _ _ h => h) (Or.inl ⟨by rfl, by intro w hSw; go_simp⟩) trivial ?_
    try simp only [Act.put, List.getElem_toArray, List.getElem_cons_zero, List.getElem_cons_succ, List.setIfInBounds_toArray, List.set_cons_zero, List.set_cons_succ]
    refine wpAnyH_take (i := 6) (v := .slice A1 m.length c1) rfl (by kernel_rfl) (by kernel_rfl) (by kernel_rfl) (fun _ _ _ h => h) (Or.inl ⟨by rfl, by intro w hSw; go_simp⟩) trivial ?_
    try simp only [Act.put, List.getElem_toArray, List.getElem_cons_zero, List.getElem_cons_succ, List.setIfInBounds_toArray, List.set_cons_zero, List.set_cons_succ]
    refine wpAnyH_take (i := 7) (v := .int .i64 k) rfl (by kernel_rfl) (by kernel_rfl) (by kernel_rfl) (fun _ _ _ h => h) (Or.inl ⟨by rfl, by intro w hSw; go_simp⟩) trivial ?_
    try simp only [Act.put, List.getElem_toArray, List.getElem_cons_zero, List.getElem_cons_succ, List.setIfInBounds_toArray, List.set_cons_zero, List.set_cons_succ]
    refine wpAnyH_take (i := 8) (v := .slice A1 k c1) rfl (by kernel_rfl) (by kernel_rfl) (by kernel_rfl) (fun _ _ _ h => h) (Or.inl ⟨by rfl, by intro w hSw; go_simp⟩) trivial ?_
    try simp only [Act.put, List.getElem_toArray, List.getElem_cons_zero, List.getElem_cons_succ, List.setIfInBounds_toArray, List.set_cons_zero, List.set_cons_succ]
    refine wpAnyH_ready (rs := [4, 9]) (by kernel_rfl) (by simp) ?_
    refine AllReadyH.cons rfl (fun K hK => ?_) (AllReadyH.cons rfl (fun K hK => ?_) AllReadyH.nil)
    · go_simp
      refine (put_any _ [] o _ ho64 (Sl.nil _ _ _) (by decide)).mono ?_
      rintro e w6 ⟨v6, rfl, hown6, hb6⟩
      rw [List.nil_append, HPO.out] at hown6
      have hc6 := run_string_of (P := Tryd.prog) hown6.bs 34 5 9 Tryd.underlying34 Tryd.underlying5 Tryd.underlying9
      have hd6 := run_string_of (P := Tryd.prog) (hmk1.below hb6) 34 5 9 Tryd.underlying34 Tryd.underlying5 Tryd.underlying9
      refine hK.out _ _ trivial (fun _ => ?_)
      clear hK K
      try simp only [Act.put, List.getElem_toArray, List.getElem_cons_zero, List.getElem_cons_succ, List.setIfInBounds_toArray, List.set_cons_zero, List.set_cons_succ]
      refine wpAnyH_ready (rs := [5, 9]) (by kernel_rfl) (by simp) ?_
      refine AllReadyH.cons rfl (fun K hK => ?_) (AllReadyH.cons rfl (fun K hK => ?_) AllReadyH.nil)
      · go_simp
        refine hK.out _ _ trivial (fun _ => ?_)
        clear hK K
        try simp only [Act.put, List.getElem_toArray, List.getElem_cons_zero, List.getElem_cons_succ, List.setIfInBounds_toArray, List.set_cons_zero, List.set_cons_succ]
        refine wpAnyH_ready (rs := [9]) (by kernel_rfl) (by simp) ?_
        refine AllReadyH.cons rfl (fun K hK => ?_) AllReadyH.nil
        go_simp
        refine hK.out _ _ trivial (fun _ => ?_)
        clear hK K
        try simp only [Act.put, List.getElem_toArray, List.getElem_cons_zero, List.getElem_cons_succ, List.setIfInBounds_toArray, List.set_cons_zero, List.set_cons_succ]
        refine wpAnyH_take (i := 10) (v := .bool true) rfl (by kernel_rfl) (by kernel_rfl) (by kernel_rfl) (fun _ _ _ h => h) (Or.inl ⟨by rfl, by intro w hSw; go_simp⟩) trivial ?_
        try simp only [Act.put, List.getElem_toArray, List.getElem_cons_zero, List.getElem_cons_succ, List.setIfInBounds_toArray, List.set_cons_zero, List.set_cons_succ]
        refine wpAnyH_take (i := 11) (v := .bool true) rfl (by kernel_rfl) (by kernel_rfl) (by kernel_rfl) (fun _ _ _ h => h) (Or.inl ⟨by rfl, by intro w hSw; go_simp⟩) trivial ?_
        try simp only [Act.put, List.getElem_toArray, List.getElem_cons_zero, List.getElem_cons_succ, List.setIfInBounds_toArray, List.set_cons_zero, List.set_cons_succ]
        refine wpAnyH_take (i := 12) (v := .bool true) rfl (by kernel_rfl) (by kernel_rfl) (by kernel_rfl) (fun _ _ _ h => h) (Or.inl ⟨by rfl, by intro w hSw; go_simp⟩) trivial ?_
        try simp only [Act.put, List.getElem_toArray, List.getElem_cons_zero, List.getElem_cons_succ, List.setIfInBounds_toArray, List.set_cons_zero, List.set_cons_succ]
        refine wpAnyH_done (by kernel_rfl) ?_ _
        go_wp2_with fail
        go_ret
        exact ⟨rfl, HB4.out.trans ((below_drawn w4 1).trans (hb6.mono HB4.out.size))⟩
      · go_simp
        refine hK.out _ _ trivial (fun _ => ?_)
        clear hK K
        try simp only [Act.put, List.getElem_toArray, List.getElem_cons_zero, List.getElem_cons_succ, List.setIfInBounds_toArray, List.set_cons_zero, List.set_cons_succ]
        refine wpAnyH_ready (rs := [5]) (by kernel_rfl) (by simp) ?_
        refine AllReadyH.cons rfl (fun K hK => ?_) AllReadyH.nil
        go_simp
        refine hK.out _ _ trivial (fun _ => ?_)
        clear hK K
        try simp only [Act.put, List.getElem_toArray, List.getElem_cons_zero, List.getElem_cons_succ, List.setIfInBounds_toArray, List.set_cons_zero, List.set_cons_succ]
        refine wpAnyH_take (i := 10) (v := .bool true) rfl (by kernel_rfl) (by kernel_rfl) (by kernel_rfl) (fun _ _ _ h => h) (Or.inl ⟨by rfl, by intro w hSw; go_simp⟩) trivial ?_
        try simp only [Act.put, List.getElem_toArray, List.getElem_cons_zero, List.getElem_cons_succ, List.setIfInBounds_toArray, List.set_cons_zero, List.set_cons_succ]
        refine wpAnyH_take (i := 11) (v := .bool true) rfl (by kernel_rfl) (by kernel_rfl) (by kernel_rfl) (fun _ _ _ h => h) (Or.inl ⟨by rfl, by intro w hSw; go_simp⟩) trivial ?_
        try simp only [Act.put, List.getElem_toArray, List.getElem_cons_zero, List.getElem_cons_succ, List.setIfInBounds_toArray, List.set_cons_zero, List.set_cons_succ]
        refine wpAnyH_take (i := 12) (v := .bool true) rfl (by kernel_rfl) (by kernel_rfl) (by kernel_rfl) (fun _ _ _ h => h) (Or.inl ⟨by rfl, by intro w hSw; go_simp⟩) trivial ?_
        try simp only [Act.put, List.getElem_toArray, List.getElem_cons_zero, List.getElem_cons_succ, List.setIfInBounds_toArray, List.set_cons_zero, List.set_cons_succ]
        refine wpAnyH_done (by kernel_rfl) ?_ _
        go_wp2_with fail
        go_ret
        exact ⟨rfl, HB4.out.trans ((below_drawn w4 1).trans (hb6.mono HB4.out.size))⟩
    · go_simp
      refine hK.out _ _ trivial (fun _ => ?_)
      clear hK K
      try simp only [Act.put, List.getElem_toArray, List.getElem_cons_zero, List.getElem_cons_succ, List.setIfInBounds_toArray, List.set_cons_zero, List.set_cons_succ]
      refine wpAnyH_ready (rs := [4]) (by kernel_rfl) (by simp) ?_
      refine AllReadyH.cons rfl (fun K hK => ?_) AllReadyH.nil
      go_simp
      refine (put_any _ [] o _ ho64 (Sl.nil _ _ _) (by decide)).mono ?_
      rintro e w6 ⟨v6, rfl, hown6, hb6⟩
      rw [List.nil_append, HPO.out] at hown6
      have hc6 := run_string_of (P := Tryd.prog) hown6.bs 34 5 9 Tryd.underlying34 Tryd.underlying5 Tryd.underlying9
      have hd6 := run_string_of (P := Tryd.prog) (hmk1.below hb6) 34 5 9 Tryd.underlying34 Tryd.underlying5 Tryd.underlying9
      refine hK.out _ _ trivial (fun _ => ?_)
      clear hK K
      try simp only [Act.put, List.getElem_toArray, List.getElem_cons_zero, List.getElem_cons_succ, List.setIfInBounds_toArray, List.set_cons_zero, List.set_cons_succ]
      refine wpAnyH_ready (rs := [5]) (by kernel_rfl) (by simp) ?_
      refine AllReadyH.cons rfl (fun K hK => ?_) AllReadyH.nil
      go_simp
      refine hK.out _ _ trivial (fun _ => ?_)
      clear hK K
      try simp only [Act.put, List.getElem_toArray, List.getElem_cons_zero, List.getElem_cons_succ, List.setIfInBounds_toArray, List.set_cons_zero, List.set_cons_succ]
      refine wpAnyH_take (i := 10) (v := .bool true) rfl (by kernel_rfl) (by kernel_rfl) (by kernel_rfl) (fun _ _ _ h => h) (Or.inl ⟨by rfl, by intro w hSw; go_simp⟩) trivial ?_
      try simp only [Act.put, List.getElem_toArray, List.getElem_cons_zero, List.getElem_cons_succ, List.setIfInBounds_toArray, List.set_cons_zero, List.set_cons_succ]
      refine wpAnyH_take (i := 11) (v := .bool true) rfl (by kernel_rfl) (by kernel_rfl) (by kernel_rfl) (fun _ _ _ h => h) (Or.inl ⟨by rfl, by intro w hSw; go_simp⟩) trivial ?_
      try simp only [Act.put, List.getElem_toArray, List.getElem_cons_zero, List.getElem_cons_succ, List.setIfInBounds_toArray, List.set_cons_zero, List.set_cons_succ]
      refine wpAnyH_take (i := 12) (v := .bool true) rfl (by kernel_rfl) (by kernel_rfl) (by kernel_rfl) (fun _ _ _ h => h) (Or.inl ⟨by rfl, by intro w hSw; go_simp⟩) trivial ?_
      try simp only [Act.put, List.getElem_toArray, List.getElem_cons_zero, List.getElem_cons_succ, List.setIfInBounds_toArray, List.set_cons_zero, List.set_cons_succ]
      refine wpAnyH_done (by kernel_rfl) ?_ _
      go_wp2_with fail
      go_ret
      exact ⟨rfl, HB4.out.trans ((below_drawn w4 1).trans (hb6.mono HB4.out.size))⟩
end Go.Proofs.YtfgfafojmjbmbaaDoor
