/- UI, UN, UN5, US, HK, XO, HL, XW -/
import Derived.Test.YtmbppnbekkbibaaGreatDoorPF05
import Derived.Test.YtmbppnbekkbibaaGreatDoorPF14
import Derived.Deep.Cut
import Derived.Deep.CutBlock
import Derived.IntWalk
import Derived.Test.YtmbppnbekkbibaaGreatDoorPF12
import Derived.Test.YtmbppnbekkbibaaGreatDoorPF13
import Derived.Test.YtmbppnbekkbibaaGreatDoorPF04
import Derived.Test.YtmbppnbekkbibaaGreatDoorPF01
import Derived.Test.YtmbppnbekkbibaaGreatDoorPF02
import Derived.Test.YtmbppnbekkbibaaGreatDoorCards
import Derived.Test.YtmbppnbekkbibaaGreatDoorTie
import Derived.ProofKit
import Derived.OpenShut
import Derived.LaidMore
import Derived.LaidSub
import Derived.Stop.Joined
import Derived.Stop.LaidErr
import Derived.Lib.LaidTab
import Derived.Deep.DeepHandedRow
import Derived.Deep.DeepWitnessRowRef
set_option linter.unusedSimpArgs false
set_option linter.unusedVariables false
section
/- Which nodes are expressions: tree.node. -/
set_option linter.unusedVariables false
namespace Go.Proofs.YtmbppnbekkbibaaGreatDoor
open Go.RowKit

/-- The contract of node, so many within one another. -/
def NdC (m : Nat) : Prop := ∀ (w : World) (z : List Value) (x : NoD), NoR w w.heap.size z x → okN x → LaidT w →
  Calls Tryz.prog 60 #[.agg z.toArray, .int .i64 (m : Int)] w fun e w' => e = .returned (.bool (nodeB m x)) ∧ Below w.heap.size w w'
theorem node_shape (m : Nat) (k : Int) (text : Bt) (n li co : Int) (ts : List TyD) (ns : List Bt) (ks : List NoD) : nodeB (m + 1) (.mk k text n li co ts ns ks) =
    (decide (0 ≤ k ∧ k < 20) && ownN k text n ts.length ns.length ks.length && ns.all nameL && ts.all (writtenB 16) && ks.all (nodeB m)) := rfl
theorem node_zero : NdC 0 := by
  intro w z x hr hok hX
  have hw : nodeB 0 x = false := rfl
  rw [hw]
  obtain ⟨k, s, n, l, o, A1, n1, c1, A2, n2, c2, A3, n3, c3, rfl⟩ := hr.shape
  have HB : Hid (Below w.heap.size w (w.alloc (.cells #[.int .i64 k, .string s, .int .i64 n, .int .i64 l, .int .i64 o, .slice A1 n1 c1, .slice A2 n2 c2, .slice A3 n3 c3] 49))) := hid ((Below.refl _ _).alloc (Nat.le_refl _) _)
  clear hr hok hX hw
  go_enter Tryz.func60, Tryz.ntmps60
  go_wp2_with fail
  go_ret
  exact ⟨rfl, HB.out⟩
/-- The numbers of kids that a kind asks for. -/
def kidsOf (k : Int) (names : Nat) : Int := if k < 0 then names else k
theorem own_kids (k : Int) (text : Bt) (n : Int) (a b d : Nat) : ownN k text n a b d = (decide (0 ≤ n ∧ n ≤ (hasD k).most) && textB k text (hasD k).name && decide ((hasD k).low ≤ a ∧ a ≤ (hasD k).types) && (decide ((hasD k).kids < 0 ∨ b = 0) && decide ((d : Int) = kidsOf (hasD k).kids b))) := by
  unfold ownN kidsOf
  congr 1
  by_cases h : (hasD k).kids < 0
  · rw [if_pos h, if_pos h]
    by_cases h2 : d = b
    · subst h2; simp [h]
    · have : ¬ (d : Int) = (b : Int) := by omega
      simp [h, h2, this]
  · rw [if_neg h, if_neg h]
    by_cases h2 : b = 0
    · subst h2
      by_cases h3 : (d : Int) = (hasD k).kids
      · simp [h3]
      · simp [h3]
    · simp [h, h2]
/-- A struct stored into a block of its own: one step of a region. -/
theorem step_store_row {P : Program} {ops : Array Oper} {o : Oper} {a : Act} {w : World} {K : Act → World → Prop} {Q : Exit → Act → World → Prop} {E : Prop} (hgd : o.guard = none) (ty : TypeId) (x y : Operand) (ho : o.op = .store ty x y)
    (g : Nat) (cells : Array Value) (hx : a.eval x = .pointer (some ⟨g, 0, none⟩)) (hy : a.eval y = .agg cells)
    (t : TypeId) (old : Array Value) (hg : w.heap[g]? = some (.cells old t (0, 0))) (hi : (P.info? ty).map (·.size) = some cells.size)
    (hold : old.size = cells.size) (h1 : cells.all (·.oneCell') = true) (h : K (a.put o.dst undef) (w.setRow g cells)) :
    if Region.wanted o (yielded ops a.tmps) = true then Oper.wp P o a w K Q else E := by
  have hw : Region.wanted o (yielded ops a.tmps) = true := by simp [Region.wanted, hgd]
  rw [if_pos hw]
  exact wp_store_row ty x y ho g cells hx hy t old hg hi hold h1 h
set_option maxRecDepth 100000 in
set_option maxHeartbeats 8000000 in
theorem node_succ (m : Nat) (hm : m ≤ 40) (ih : NdC m) : NdC (m + 1) := by
  intro w z x hr hok hX
  obtain ⟨k, text, n, li, co, ts, ns, ks⟩ := x
  rw [okN] at hok
  obtain ⟨ok1, ok2, ok3, ok4, ok5, ok6, ok7, ok8⟩ := hok
  obtain ⟨A1, c1, A2, c2, A3, c3, xt, xk, rfl, s1, r1, s2, s3, r3⟩ := hr.parts
  have l1 := (t_sl_len s1).2
  have l2 := (t_sl_len s2).2
  have l3 := (t_sl_len s3).2
  have hres0 := node_shape m k text n li co ts ns ks
  rw [own_kids] at hres0
  obtain ⟨res, hres⟩ : ∃ res, nodeB (m + 1) (.mk k text n li co ts ns ks) = res := ⟨_, rfl⟩
  rw [hres] at hres0 ⊢
  clear hres hr
  obtain ⟨W, hW⟩ : ∃ W, w.alloc (.cells #[.int .i64 k, sv text, .int .i64 n, .int .i64 li, .int .i64 co, .slice A1 ts.length c1, .slice A2 ns.length c2, .slice A3 ks.length c3] 49) = W := ⟨_, rfl⟩
  have hb1 : Below w.heap.size w W := by rw [← hW]; exact (Below.refl _ _).alloc (Nat.le_refl _) _
  have hbx : W.heap[w.heap.size]? = some (.cells #[.int .i64 k, sv text, .int .i64 n, .int .i64 li, .int .i64 co, .slice A1 ts.length c1, .slice A2 ns.length c2, .slice A3 ks.length c3] 49 (0, 0)) := by rw [← hW]; exact heap_alloc_new w _
  have HX := hid (hX.below hb1)
  have HTT := hid (And.intro (Sl.more (Sl.below s1 hb1) hb1.size) ((r1.keep hb1).more hb1.size))
  have HKK := hid (And.intro (Sl.more (Sl.below s3 hb1) hb1.size) ((r3.keep hb1).more hb1.size))
  have hs2 := Sl.more (Sl.below s2 hb1) hb1.size
  have HNM := hid (fun wr (h : Below W.heap.size W wr) => tnamed_any _ ns wr (Sl.more (Sl.below hs2 h) h.size) ok7 (HX.out.below h))
  have HTX := hid (fun wr (h : Below W.heap.size W wr) (b : Bool) (a1 a2 a3 a4 : Int) => text_any wr k text n li co A1 ts.length c1 A2 ns.length c2 A3 ks.length c3 ok2 (HX.out.below h) b a1 a2 a3 a4)
  have HOT := hid ok6
  have HOK := hid (okNs_mem.1 ok8)
  have HIH := hid ih
  have HWR := hid (written_all 16 (by omega))
  have HBX := hid hbx
  have HB1 := hid hb1
  have HRES := hid hres0
  have HWE := hid hW
  have hn64 := ok3
  clear s1 r1 s2 s3 r3 ok1 ok2 ok3 ok4 ok5 ok6 ok7 ok8 hX ih hb1 hbx hres0 hs2 hW
  obtain ⟨a, hA⟩ : ∃ a, ts.length = a := ⟨_, rfl⟩
  obtain ⟨b, hB⟩ : ∃ b, ns.length = b := ⟨_, rfl⟩
  obtain ⟨d, hD⟩ : ∃ d, ks.length = d := ⟨_, rfl⟩
  rw [hA] at l1 HTT HTX HBX HWE HRES ⊢
  rw [hB] at l2 HNM HTX HBX HWE HRES ⊢
  rw [hD] at l3 HKK HTX HBX HWE HRES ⊢
  have HA := hid hA
  have HD := hid hD
  clear hA hB hD
  have hm0 : (((m : Int) + 1) == 0) = false := by rw [beq_eq_false_iff_ne]; omega
  have hm1 : (((m + 1 : Nat) : Int) == 0) = false := by rw [beq_eq_false_iff_ne]; omega
  generalize ns.all nameL = q at *
  by_cases h0 : k < 0
  · have g4 : decide (k < 0) = true := by simpa using h0
    have HF : Hid (res = false) := hid (by rw [HRES.out, decide_eq_false (by omega : ¬ (0 ≤ k ∧ k < 20))]; rfl)
    clear h0 hn64
    go_enter Tryz.func60, Tryz.ntmps60
    go_wp2_with fail
    go_ret
    refine ⟨by rw [HF.out]; rfl, ?_⟩
    rw [HWE.out]
    exact HB1.out
  have g4 : decide (k < 0) = false := by simpa using h0
  by_cases h20 : 20 ≤ k
  · have g5 : decide (20 ≤ k) = true := by simpa using h20
    have HF : Hid (res = false) := hid (by rw [HRES.out, decide_eq_false (by omega : ¬ (0 ≤ k ∧ k < 20))]; rfl)
    clear h0 h20 hn64
    go_enter Tryz.func60, Tryz.ntmps60
    go_wp2_with fail
    go_ret
    refine ⟨by rw [HF.out]; rfl, ?_⟩
    rw [HWE.out]
    exact HB1.out
  have g5 : decide (20 ≤ k) = false := by simpa using h20
  have HRK : Hid (res = (decide (0 ≤ n ∧ n ≤ (hasD k).most) && textB k text (hasD k).name && decide ((hasD k).low ≤ a ∧ a ≤ (hasD k).types) && (decide ((hasD k).kids < 0 ∨ b = 0) && decide ((d : Int) = kidsOf (hasD k).kids b)) && q && ts.all (writtenB 16) && ks.all (nodeB m))) := hid (by rw [HRES.out, decide_eq_true (by omega : 0 ≤ k ∧ k < 20), Bool.true_and])
  have HKI := hid (fun w1 => (kinds_any w1).mono fun e w' (h : _ ∧ _) => (⟨h.1.imp fun v hv => ⟨hv.1, hv.2 k (by omega) (by omega)⟩, h.2⟩ : (∃ v, e = .returned v ∧ ∀ u, (Instr.index 166 v (.int .i64 k)).run Tryz.prog u = .ok (hasV (hasD k)) u) ∧ Below w1.heap.size w1 w'))
  have HN64 := hid hn64
  clear h0 h20 HRES hn64
  go_enter Tryz.func60, Tryz.ntmps60
  go_upto_region 3 with (fail)
  have hW := HWE.out
  rw [hW]
  clear hW hm0 hm1 g4 g5
  go_cut [5] from 10 (fun v5 wc => ∃ b5, v5 = .pointer (some ⟨b5, 0, none⟩) ∧ W.heap.size ≤ b5 ∧ wc.heap[b5]? = some (.cells #[.bool (hasD k).name, .int .i64 ((hasD k).low : Int), .int .i64 ((hasD k).types : Int), .int .i64 (hasD k).kids, .int .i64 (hasD k).most] 165 (0, 0)) ∧ Below W.heap.size W wc)
  case first =>
    obtain ⟨g0, _⟩ := t_row8 HBX.out
    have G0 := hid g0
    clear g0
    have HB0 : Hid (Below W.heap.size W W.drew) := hid (below_drawn W 1)
    refine wp_region_held_drew (S := fun w' => Below W.heap.size W w') (by kernel_rfl) HB0.out (fun _ => ?_)
    try simp only [Act.put, List.getElem_toArray, List.getElem_cons_zero, List.getElem_cons_succ, List.setIfInBounds_toArray, List.set_cons_zero, List.set_cons_succ]
    refine tk 1 (.pointer (some ⟨w.heap.size, 0, none⟩)) HB0.out ?_
    refine tkf 2 (.int .i64 k) (kp1 G0.out) HB0.out ?_
    refine wpAnyH_ready (rs := [0, 4]) (by kernel_rfl) (by simp) ?_
    refine AllReadyH.cons rfl (fun K hK => ?_) (AllReadyH.cons rfl (fun K hK => ?_) AllReadyH.nil)
    · go_simp
      refine (HKI.out _).mono ?_
      rintro e w2 ⟨⟨v, rfl, hix⟩, hb⟩
      have HB2 := hid (HB0.out.trans (hb.mono HB0.out.size))
      have HIX := hid hix
      clear hb hix
      refine hK.out _ _ HB2.out (fun _ => ?_)
      clear hK K
      try simp only [Act.put, List.getElem_toArray, List.getElem_cons_zero, List.getElem_cons_succ, List.setIfInBounds_toArray, List.set_cons_zero, List.set_cons_succ]
      refine wpAnyH_take (i := 3) (v := (hasV (hasD k))) rfl (by kernel_rfl) (by kernel_rfl) (by kernel_rfl) (fun _ _ _ h => h) (Or.inl ⟨by kernel_rfl, by intro w' hSw; have hix := HIX.out; go_simp⟩) HB2.out ?_
      try simp only [Act.put, List.getElem_toArray, List.getElem_cons_zero, List.getElem_cons_succ, List.setIfInBounds_toArray, List.set_cons_zero, List.set_cons_succ]
      refine wpAnyH_ready (rs := [4]) (by kernel_rfl) (by simp) ?_
      refine AllReadyH.cons rfl (fun K hK => ?_) (AllReadyH.nil)
      go_simp
      have HB3 := hid (HB2.out.alloc HB2.out.size (.cells #[.bool false, .int .i64 0, .int .i64 0, .int .i64 0, .int .i64 0] 165))
      have hzz := heap_alloc_new w2 (.cells #[.bool false, .int .i64 0, .int .i64 0, .int .i64 0, .int .i64 0] 165)
      refine hK.out _ _ HB3.out (fun _ => ?_)
      clear hK K
      try simp only [Act.put, List.getElem_toArray, List.getElem_cons_zero, List.getElem_cons_succ, List.setIfInBounds_toArray, List.set_cons_zero, List.set_cons_succ]
      refine wpAnyH_ready (rs := [5]) (by kernel_rfl) (by simp) ?_
      refine AllReadyH.cons rfl (fun K hK => ?_) AllReadyH.nil
      refine step_store_row rfl _ _ _ rfl w2.heap.size #[.bool (hasD k).name, .int .i64 ((hasD k).low : Int), .int .i64 ((hasD k).types : Int), .int .i64 (hasD k).kids, .int .i64 (hasD k).most] rfl rfl _ _ hzz (by kernel_rfl) rfl (by simp [Value.oneCell']) ?_
      have hzz2 := setRow_heap _ w2.heap.size _ #[.bool (hasD k).name, .int .i64 ((hasD k).low : Int), .int .i64 ((hasD k).types : Int), .int .i64 (hasD k).kids, .int .i64 (hasD k).most] _ _ hzz
      have HB9 := hid (below_setRow HB3.out HB2.out.size #[.bool (hasD k).name, .int .i64 ((hasD k).low : Int), .int .i64 ((hasD k).types : Int), .int .i64 (hasD k).kids, .int .i64 (hasD k).most])
      have HZ2 := hid hzz2
      clear hzz hzz2
      refine hK.out _ _ HB9.out (fun _ => ?_)
      clear hK K
      try simp only [Act.put, List.getElem_toArray, List.getElem_cons_zero, List.getElem_cons_succ, List.setIfInBounds_toArray, List.set_cons_zero, List.set_cons_succ]
      refine wpAnyH_done (by kernel_rfl) ?_ _
      go_wp2_with fail
      go_meet
      case rel => exact ⟨_, rfl, HB2.out.size, HZ2.out, HB9.out⟩
    · go_simp
      have HB3 := hid (HB0.out.alloc HB0.out.size (.cells #[.bool false, .int .i64 0, .int .i64 0, .int .i64 0, .int .i64 0] 165))
      refine hK.out _ _ HB3.out (fun _ => ?_)
      clear hK K
      try simp only [Act.put, List.getElem_toArray, List.getElem_cons_zero, List.getElem_cons_succ, List.setIfInBounds_toArray, List.set_cons_zero, List.set_cons_succ]
      refine wpAnyH_ready (rs := [0]) (by kernel_rfl) (by simp) ?_
      refine AllReadyH.cons rfl (fun K hK => ?_) AllReadyH.nil
      go_simp
      refine (HKI.out _).mono ?_
      rintro e w2 ⟨⟨v, rfl, hix⟩, hb⟩
      have hzz := (hb.block _ (block_lt (heap_alloc_new W.drew (.cells #[.bool false, .int .i64 0, .int .i64 0, .int .i64 0, .int .i64 0] 165)))).trans (heap_alloc_new W.drew (.cells #[.bool false, .int .i64 0, .int .i64 0, .int .i64 0, .int .i64 0] 165))
      have HB4 := hid (HB3.out.trans (hb.mono HB3.out.size))
      have HIX := hid hix
      clear hb hix
      refine hK.out _ _ HB4.out (fun _ => ?_)
      clear hK K
      try simp only [Act.put, List.getElem_toArray, List.getElem_cons_zero, List.getElem_cons_succ, List.setIfInBounds_toArray, List.set_cons_zero, List.set_cons_succ]
      refine wpAnyH_take (i := 3) (v := (hasV (hasD k))) rfl (by kernel_rfl) (by kernel_rfl) (by kernel_rfl) (fun _ _ _ h => h) (Or.inl ⟨by kernel_rfl, by intro w' hSw; have hix := HIX.out; go_simp⟩) HB4.out ?_
      try simp only [Act.put, List.getElem_toArray, List.getElem_cons_zero, List.getElem_cons_succ, List.setIfInBounds_toArray, List.set_cons_zero, List.set_cons_succ]
      refine wpAnyH_ready (rs := [5]) (by kernel_rfl) (by simp) ?_
      refine AllReadyH.cons rfl (fun K hK => ?_) AllReadyH.nil
      refine step_store_row rfl _ _ _ rfl W.heap.size #[.bool (hasD k).name, .int .i64 ((hasD k).low : Int), .int .i64 ((hasD k).types : Int), .int .i64 (hasD k).kids, .int .i64 (hasD k).most] rfl rfl _ _ hzz (by kernel_rfl) rfl (by simp [Value.oneCell']) ?_
      have hzz2 := setRow_heap _ W.heap.size _ #[.bool (hasD k).name, .int .i64 ((hasD k).low : Int), .int .i64 ((hasD k).types : Int), .int .i64 (hasD k).kids, .int .i64 (hasD k).most] _ _ hzz
      have HB9 := hid (below_setRow HB4.out (Nat.le_refl _) #[.bool (hasD k).name, .int .i64 ((hasD k).low : Int), .int .i64 ((hasD k).types : Int), .int .i64 (hasD k).kids, .int .i64 (hasD k).most])
      have HZ2 := hid hzz2
      clear hzz hzz2
      refine hK.out _ _ HB9.out (fun _ => ?_)
      clear hK K
      try simp only [Act.put, List.getElem_toArray, List.getElem_cons_zero, List.getElem_cons_succ, List.setIfInBounds_toArray, List.set_cons_zero, List.set_cons_succ]
      refine wpAnyH_done (by kernel_rfl) ?_ _
      go_wp2_with fail
      go_meet
      case rel => exact ⟨_, rfl, (Nat.le_refl _), HZ2.out, HB9.out⟩
  case rest =>
    obtain ⟨b5, rfl, hb5, hrow, hbw⟩ := hcut
    generalize (hasD k).name = hn at *
    generalize (hasD k).low = lo at *
    generalize (hasD k).types = hi at *
    generalize (hasD k).kids = kd at *
    generalize (hasD k).most = mo at *
    have HROW := hid hrow
    have HBW := hid hbw
    clear HKI hrow hbw
    go_upto_block 0 with (fail)
    obtain ⟨kv, hkv⟩ : ∃ kv, kidsOf kd b = kv := ⟨_, rfl⟩
    rw [hkv] at HRK
    have HKV := hid hkv
    clear hkv
    go_cut [5] from 10 (fun v5 wc => v5 = .pointer (some ⟨b5, 0, none⟩) ∧ (kd < 0 ∨ b = 0) ∧ wc.heap[b5]? = some (.cells #[.bool hn, .int .i64 (lo : Int), .int .i64 (hi : Int), .int .i64 kv, .int .i64 mo] 165 (0, 0)) ∧ Below W.heap.size W wc)
    case first =>
      obtain ⟨e0, e1, e2, e3, e4⟩ := t_row5 HROW.out
      have f3 := block_free HROW.out 3
      obtain ⟨p0, p1, p2, p3, p4, p5, p6, p7⟩ := t_row8 ((HBW.out.block _ (block_lt HBX.out)).trans HBX.out)
      clear e0 e1 e2 e4 p0 p1 p2 p3 p4 p5 p7
      by_cases hk : kd < 0
      · have g1 : decide (kd < 0) = true := by simpa using hk
        have HV : Hid (kv = (b : Int)) := hid (by rw [← HKV.out]; unfold kidsOf; rw [if_pos hk])
        have HK0 := hid hk
        clear hk
        go_wp2_with fail
        go_meet
        case rel =>
          refine ⟨rfl, .inl HK0.out, ?_, HBW.out.trans ((turn_set wc b5 3 (.int .i64 (b : Int))).below HBW.out.size (fun j hj e => by omega))⟩
          rw [HV.out]
          exact heap_setCell_same wc b5 3 _ _ _ HROW.out
      · have g1 : decide (kd < 0) = false := by simpa using hk
        have HV : Hid (kv = kd) := hid (by rw [← HKV.out]; unfold kidsOf; rw [if_neg hk])
        have HK0 := hid hk
        clear hk
        by_cases hb0 : 0 < b
        · have g2 : decide ((0 : Int) < (b : Int)) = true := by simp; omega
          have HF : Hid (res = false) := hid (by rw [HRK.out, decide_eq_false (by have := HK0.out; omega : ¬ (kd < 0 ∨ b = 0))]; simp)
          go_wp2_with fail
          go_ret
          refine ⟨by rw [HF.out]; rfl, HB1.out.trans (HBW.out.mono HB1.out.size)⟩
        · have g2 : decide ((0 : Int) < (b : Int)) = false := by simp; omega
          have HB00 : Hid (b = 0) := hid (by omega)
          go_wp2_with fail
          go_meet
          case rel =>
            refine ⟨rfl, .inr HB00.out, ?_, HBW.out⟩
            rw [HV.out]
            exact HROW.out
    case rest =>
      rename_i wc0
      clear HROW HBW HKV
      obtain ⟨rfl, hkb, hrow, hbw⟩ := hcut
      have HRR : Hid (res = (decide (0 ≤ n ∧ n ≤ mo) && textB k text hn && decide (lo ≤ a ∧ a ≤ hi) && decide ((d : Int) = kv) && q && ts.all (writtenB 16) && ks.all (nodeB m))) := hid (by rw [HRK.out, decide_eq_true hkb, Bool.true_and])
      have HTW := hid (HTX.out wc hbw hn lo hi kv mo)
      have HROW := hid hrow
      have HBW := hid hbw
      obtain ⟨e0, e1, e2, e3, e4⟩ := t_row5 hrow
      obtain ⟨p0, p1, p2, p3, p4, p5, p6, p7⟩ := t_row8 ((hbw.block _ (block_lt HBX.out)).trans HBX.out)
      clear HTX HRK hkb hrow hbw
      generalize textB k text hn = tb at *
      by_cases n0 : n < 0
      · have g1 : decide (n < 0) = true := by simpa using n0
        have HF : Hid (res = false) := hid (by rw [HRR.out, decide_eq_false (by omega : ¬ (0 ≤ n ∧ n ≤ mo))]; simp)
        clear n0
        go_wp2_with fail
        go_ret
        refine ⟨by rw [HF.out]; rfl, HB1.out.trans (HBW.out.mono HB1.out.size)⟩
      have g1 : decide (n < 0) = false := by simpa using n0
      by_cases n1 : mo < n
      · have g2 : decide (mo < n) = true := by simpa using n1
        have HF : Hid (res = false) := hid (by rw [HRR.out, decide_eq_false (by omega : ¬ (0 ≤ n ∧ n ≤ mo))]; simp)
        clear n0 n1
        go_wp2_with fail
        go_ret
        refine ⟨by rw [HF.out]; rfl, HB1.out.trans (HBW.out.mono HB1.out.size)⟩
      have g2 : decide (mo < n) = false := by simpa using n1
      have HRS : Hid (res = (tb && decide (lo ≤ a ∧ a ≤ hi) && decide ((d : Int) = kv) && q && ts.all (writtenB 16) && ks.all (nodeB m))) := hid (by rw [HRR.out, decide_eq_true (by omega : 0 ≤ n ∧ n ≤ mo), Bool.true_and])
      clear HRR n0 n1
      go_wp2_with fail
      refine HTW.out.mono ?_
      rintro e w3 ⟨rfl, hb3⟩
      have hbw3 := HBW.out.trans (hb3.mono HBW.out.size)
      have hrow3 := (hb3.block _ (block_lt HROW.out)).trans HROW.out
      have HB3 := hid hbw3
      have HROW3 := hid hrow3
      have HNW := hid (HNM.out w3 hbw3)
      clear e0 e1 e2 e3 e4 p0 p1 p2 p3 p4 p5 p6 p7 hb3
      obtain ⟨e0, e1, e2, e3, e4⟩ := t_row5 hrow3
      obtain ⟨p0, p1, p2, p3, p4, p5, p6, p7⟩ := t_row8 ((hbw3.block _ (block_lt HBX.out)).trans HBX.out)
      clear hbw3 hrow3 HNM HTW HBW HROW
      cases tb with
      | false =>
        have HF : Hid (res = false) := hid (by rw [HRS.out]; simp)
        go_wp2_with fail
        go_ret
        refine ⟨by rw [HF.out]; rfl, HB1.out.trans (HB3.out.mono HB1.out.size)⟩
      | true =>
        go_wp2_with fail
        refine HNW.out.mono ?_
        rintro e w4 ⟨rfl, hb4⟩
        have hbw4 := HB3.out.trans (hb4.mono HB3.out.size)
        have hrow4 := (hb4.block _ (block_lt HROW3.out)).trans HROW3.out
        have HB4 := hid hbw4
        clear e0 e1 e2 e3 e4 p0 p1 p2 p3 p4 p5 p6 p7 hb4
        obtain ⟨e0, e1, e2, e3, e4⟩ := t_row5 hrow4
        obtain ⟨p0, p1, p2, p3, p4, p5, p6, p7⟩ := t_row8 ((hbw4.block _ (block_lt HBX.out)).trans HBX.out)
        clear hbw4 hrow4 HNW HB3 HROW3
        cases q with
        | false =>
          have HF : Hid (res = false) := hid (by rw [HRS.out]; simp)
          go_wp2_with fail
          go_ret
          refine ⟨by rw [HF.out]; rfl, HB1.out.trans (HB4.out.mono HB1.out.size)⟩
        | true =>
          by_cases h1 : a < lo
          · have g3 : decide ((a : Int) < (lo : Int)) = true := by simp; omega
            have HF : Hid (res = false) := hid (by rw [HRS.out, decide_eq_false (by omega : ¬ (lo ≤ a ∧ a ≤ hi))]; simp)
            go_wp2_with fail
            go_ret
            refine ⟨by rw [HF.out]; rfl, HB1.out.trans (HB4.out.mono HB1.out.size)⟩
          have g3 : decide ((a : Int) < (lo : Int)) = false := by simp; omega
          by_cases h2 : hi < a
          · have g4 : decide ((hi : Int) < (a : Int)) = true := by simp; omega
            have HF : Hid (res = false) := hid (by rw [HRS.out, decide_eq_false (by omega : ¬ (lo ≤ a ∧ a ≤ hi))]; simp)
            go_wp2_with fail
            go_ret
            refine ⟨by rw [HF.out]; rfl, HB1.out.trans (HB4.out.mono HB1.out.size)⟩
          have g4 : decide ((hi : Int) < (a : Int)) = false := by simp; omega
          by_cases h3 : (d : Int) = kv
          · have HRT : Hid (res = (ts.all (writtenB 16) && ks.all (nodeB m))) := hid (by rw [HRS.out, decide_eq_true (by omega : lo ≤ a ∧ a ≤ hi), decide_eq_true h3]; simp)
            have g5 : ((d : Int) != kv) = false := by rw [bne_eq_false_iff_eq]; exact h3
            clear h3 HRS
            go_wp2_with fail
            clear e0 e1 e2 e3 e4 p0 p1 p2 p3 p4 p5 p6 p7 g1 g2 g3 g4 g5 h1 h2
            go_loopw [88] (fun v88 wr => ∃ i : Nat, v88 = .int .i64 i ∧ i ≤ a ∧ (ts.take i).all (writtenB 16) = true ∧ Below W.heap.size W wr) (fun v88 _ => a - (intOf v88).toNat)
            case atStart => exact ⟨0, rfl, by omega, rfl, HB4.out⟩
            case round =>
              obtain ⟨i, rfl, hi_, hinv, hbr⟩ := hrel
              have HI := hid hinv
              have HB := hid hbr
              clear hinv
              by_cases hlt : i < a
              · have hil : i < ts.length := by rw [HA.out]; exact hlt
                obtain ⟨b2, o2, kk, ss, A5, n5, c5, A6, n6, c6, rfl, hr1, e0, e1, e2, e3⟩ := elem_at (Sl.more (Sl.below HTT.out.1 hbr) hbr.size) ((HTT.out.2.keep hbr).more hbr.size) hil HA.out.symm
                obtain ⟨wA, hwA⟩ : ∃ wA, wr.alloc (.cells #[.int .i64 kk, .string ss, .slice A5 n5 c5, .slice A6 n6 c6] 63) = wA := ⟨_, rfl⟩
                have hbA : Below wr.heap.size wr wA := by rw [← hwA]; exact (Below.refl _ _).alloc (Nat.le_refl _) _
                have HC := hid (HWR.out wA _ ts[i] (hr1.far (Nat.le_refl _) hbA) (HOT.out _ (List.getElem_mem hil)) ((HX.out.below hbr).below hbA))
                have HBA := hid hbA
                have HWA := hid hwA
                have hst := t_take hil
                rw [← hwA] at HC
                clear hbr hr1 hbA hwA
                cases hq : writtenB 16 ts[i] with
                | false =>
                  have hall : ts.all (writtenB 16) = false := by
                    cases h : ts.all (writtenB 16) with
                    | false => rfl
                    | true => rw [List.all_eq_true] at h; rw [h _ (List.getElem_mem hil)] at hq; cases hq
                  have HF : Hid (res = false) := hid (by rw [HRT.out, hall]; simp)
                  rw [hq] at HC
                  clear hq hst hall
                  generalize ts[i] = X at *
                  go_wp2_with fail
                  refine HC.out.mono ?_
                  rintro e w5 ⟨rfl, hb⟩
                  rw [HWA.out] at hb
                  have HB5 := hid (HB.out.trans ((HBA.out.trans (hb.mono HBA.out.size)).mono HB.out.size))
                  clear hb e0 e1 e2 e3
                  go_wp2_with fail
                  go_ret
                  refine ⟨by rw [HF.out]; rfl, HB1.out.trans (HB5.out.mono HB1.out.size)⟩
                | true =>
                  have HST : Hid ((ts.take (i + 1)).all (writtenB 16) = true) := hid (by rw [hst, List.all_append, HI.out]; simp [hq])
                  rw [hq] at HC
                  clear hq hst
                  generalize ts[i] = X at *
                  go_wp2_with fail
                  refine HC.out.mono ?_
                  rintro e w5 ⟨rfl, hb⟩
                  rw [HWA.out] at hb
                  have HB5 := hid (HB.out.trans ((HBA.out.trans (hb.mono HBA.out.size)).mono HB.out.size))
                  clear hb e0 e1 e2 e3
                  go_wp2_with fail
                  go_roundw
                  case rel => exact ⟨i + 1, rfl, by omega, HST.out, HB5.out⟩
                  case measure => simp [intOf]; omega
              · obtain rfl : i = a := by omega
                have HRU : Hid (res = ks.all (nodeB m)) := hid (by
                  have h := HI.out
                  rw [List.take_of_length_le (by rw [HA.out]; omega)] at h
                  rw [HRT.out, h, Bool.true_and])
                obtain ⟨p0, p1, p2, p3, p4, p5, p6, p7⟩ := t_row8 ((hbr.block _ (block_lt HBX.out)).trans HBX.out)
                clear hlt hbr HI HRT
                go_wp2_with fail
                clear p0 p1 p2 p3 p4 p5 p6 p7
                go_loopw [99] (fun v99 wr => ∃ i : Nat, v99 = .int .i64 i ∧ i ≤ d ∧ (ks.take i).all (nodeB m) = true ∧ Below W.heap.size W wr) (fun v99 _ => d - (intOf v99).toNat)
                case atStart => exact ⟨0, rfl, by omega, rfl, HB.out⟩
                case round =>
                  obtain ⟨j, rfl, hj_, hinv2, hbr2⟩ := hrel
                  have HI2 := hid hinv2
                  have HB2 := hid hbr2
                  clear hinv2
                  by_cases hlt : j < d
                  · have hil : j < ks.length := by rw [HD.out]; exact hlt
                    obtain ⟨b2, o2, kk, ss, y2, y3, y4, A5, n5, c5, A6, n6, c6, A7, n7, c7, rfl, hr1, e0, e1, e2, e3, e4, e5, e6, e7⟩ := node_at (Sl.more (Sl.below HKK.out.1 hbr2) hbr2.size) ((HKK.out.2.keep hbr2).more hbr2.size) hil HD.out.symm
                    obtain ⟨wA, hwA⟩ : ∃ wA, wr.alloc (.cells #[.int .i64 kk, .string ss, .int .i64 y2, .int .i64 y3, .int .i64 y4, .slice A5 n5 c5, .slice A6 n6 c6, .slice A7 n7 c7] 49) = wA := ⟨_, rfl⟩
                    have hbA : Below wr.heap.size wr wA := by rw [← hwA]; exact (Below.refl _ _).alloc (Nat.le_refl _) _
                    have HC := hid (HIH.out wA _ ks[j] (hr1.far (Nat.le_refl _) hbA) (HOK.out _ (List.getElem_mem hil)) ((HX.out.below hbr2).below hbA))
                    have HBA := hid hbA
                    have HWA := hid hwA
                    have hst := t_take hil
                    rw [← hwA] at HC
                    clear hbr2 hr1 hbA hwA
                    cases hq : nodeB m ks[j] with
                    | false =>
                      have hall : ks.all (nodeB m) = false := by
                        cases h : ks.all (nodeB m) with
                        | false => rfl
                        | true => rw [List.all_eq_true] at h; rw [h _ (List.getElem_mem hil)] at hq; cases hq
                      have HF : Hid (res = false) := hid (by rw [HRU.out, hall])
                      rw [hq] at HC
                      clear hq hst hall
                      generalize ks[j] = X at *
                      go_wp2_with fail
                      refine HC.out.mono ?_
                      rintro e w5 ⟨rfl, hb⟩
                      rw [HWA.out] at hb
                      have HB5 := hid (HB2.out.trans ((HBA.out.trans (hb.mono HBA.out.size)).mono HB2.out.size))
                      clear hb e0 e1 e2 e3 e4 e5 e6 e7
                      go_wp2_with fail
                      go_ret
                      refine ⟨by rw [HF.out]; rfl, HB1.out.trans (HB5.out.mono HB1.out.size)⟩
                    | true =>
                      have HST : Hid ((ks.take (j + 1)).all (nodeB m) = true) := hid (by rw [hst, List.all_append, HI2.out]; simp [hq])
                      rw [hq] at HC
                      clear hq hst
                      generalize ks[j] = X at *
                      go_wp2_with fail
                      refine HC.out.mono ?_
                      rintro e w5 ⟨rfl, hb⟩
                      rw [HWA.out] at hb
                      have HB5 := hid (HB2.out.trans ((HBA.out.trans (hb.mono HBA.out.size)).mono HB2.out.size))
                      clear hb e0 e1 e2 e3 e4 e5 e6 e7
                      go_wp2_with fail
                      go_roundw
                      case rel => exact ⟨j + 1, rfl, by omega, HST.out, HB5.out⟩
                      case measure => simp [intOf]; omega
                  · obtain rfl : j = d := by omega
                    have HF : Hid (res = true) := hid (by
                      have h := HI2.out
                      rw [List.take_of_length_le (by rw [HD.out]; omega)] at h
                      rw [HRU.out, h])
                    clear hbr2 hlt
                    go_wp2_with fail
                    go_ret
                    refine ⟨by rw [HF.out]; rfl, HB1.out.trans (HB2.out.mono HB1.out.size)⟩
          · have HF : Hid (res = false) := hid (by rw [HRS.out, decide_eq_false h3]; simp)
            have g5 : ((d : Int) != kv) = true := by rw [bne_iff_ne]; exact h3
            clear h3
            go_wp2_with fail
            go_ret
            refine ⟨by rw [HF.out]; rfl, HB1.out.trans (HB4.out.mono HB1.out.size)⟩
theorem node_all : ∀ m : Nat, m ≤ 41 → NdC m
  | 0, _ => node_zero
  | m + 1, h => node_succ m (by omega) (node_all m (by omega))
end Go.Proofs.YtmbppnbekkbibaaGreatDoor
end
section
/- An expression as text: the contract. -/
set_option linter.unusedVariables false
namespace Go.Proofs.YtmbppnbekkbibaaGreatDoor
open Go.RowKit

/-- The contract of expr, of an expression of not too many. -/
def ExC (x : NoD) : Prop := ∀ (w : World) (z : List Value) (m : Nat), NoR w w.heap.size z x → okN x → nodeB m x = true → cntN x ≤ 100000 → LaidT w →
  Calls Tryz.prog 61 #[.agg z.toArray] w fun e w' => e = .returned (sv (exprS x)) ∧ Below w.heap.size w w'
end Go.Proofs.YtmbppnbekkbibaaGreatDoor
end
section
/- An expression as text: kinds [14, 15, 16]. -/
set_option linter.unusedVariables false
namespace Go.Proofs.YtmbppnbekkbibaaGreatDoor
open Go.RowKit

set_option maxRecDepth 100000 in
set_option maxHeartbeats 8000000 in
theorem expr_k14 (text : Bt) (n li co : Int) (ts : List TyD) (ns : List Bt) (ks : List NoD) (ih : ∀ y ∈ ks, ExC y) : ExC (.mk 14 text n li co ts ns ks) := by
  intro w z m hr hok hnd hc hX
  have hlen := expr_len _ m hnd
  obtain ⟨q, rfl, hk20, hown, hns, hts, hkk⟩ := node_open hnd
  rw [own_kids, Bool.and_eq_true, Bool.and_eq_true, Bool.and_eq_true, Bool.and_eq_true, decide_eq_true_eq, decide_eq_true_eq, decide_eq_true_eq, decide_eq_true_eq] at hown
  obtain ⟨⟨⟨⟨hn0, hn1⟩, htx⟩, hlo, hhi⟩, hkn, hkd⟩ := hown
  have htl := text_len htx
  rw [okN] at hok
  obtain ⟨ok1, ok2, ok3, ok4, ok5, ok6, ok7, ok8⟩ := hok
  obtain ⟨A1, c1, A2, c2, A3, c3, xt, xk, rfl, s1, r1, s2, s3, r3⟩ := hr.parts
  have l1 := (t_sl_len s1).2
  have l2 := (t_sl_len s2).2
  have l3 := (t_sl_len s3).2
  rw [exprS] at hlen ⊢
  rw [cntN] at hc hlen
  have hcT : cntTs ts ≤ 100000 := by omega
  have hcK : cntNs ks ≤ 100000 := by omega
  have hdc : ks.length ≤ 100000 := Nat.le_trans (cntNs_len ks) hcK
  obtain ⟨S, hS⟩ : ∃ S, exprSs ks = S := ⟨_, rfl⟩
  have hSL0 : S.length = ks.length := by rw [← hS, exprSs_length]
  have HSG : Hid (∀ (i : Nat) (h : i < ks.length) (h2 : i < S.length), S[i] = exprS ks[i]) := hid (by
    intro i h h2
    subst hS
    simp [exprSs_map])
  rw [hS] at hlen ⊢
  have HKK := hid (And.intro s3 r3)
  have HTT := hid (And.intro s1 r1)
  have HSS := hid s2
  have HIH := hid ih
  have HOK := hid (okNs_mem.1 ok8)
  have HNK := hid hkk
  have HCK := hid hcK
  have HCT := hid hcT
  have HTS := hid hts
  have HNS := hid hns
  have HX := hid hX
  have hn64 := ok3
  clear hr s1 r1 s2 s3 r3 ih ok1 ok2 ok3 ok4 ok5 ok6 ok7 ok8 hkk hts hns hX hS hnd hk20
  obtain ⟨a, hA⟩ : ∃ a, ts.length = a := ⟨_, rfl⟩
  obtain ⟨b, hB⟩ : ∃ b, ns.length = b := ⟨_, rfl⟩
  obtain ⟨d, hD⟩ : ∃ d, ks.length = d := ⟨_, rfl⟩
  rw [hA] at l1 HTT hlo hhi
  rw [hB] at l2 HSS hkn hkd
  rw [hD] at l3 HKK hkd hdc hSL0
  rw [hA, hB, hD]
  have HA := hid hA
  have HBN := hid hB
  have HD := hid hD
  have HSL := hid hSL0
  clear hA hB hD
  have hd0 : d = 2 := by
    have h : (hasD 14).kids = 2 := rfl
    rw [h] at hkd
    unfold kidsOf at hkd
    rw [if_neg (by decide)] at hkd
    omega
  have HD0 := hid hd0
  clear hd0 hkd hkn
  obtain ⟨OB, hOB⟩ : ∃ OB, Obj.cells #[.int .i64 14, sv text, .int .i64 n, .int .i64 li, .int .i64 co, .slice A1 a c1, .slice A2 b c2, .slice A3 d c3] 49 (0, 0) = OB := ⟨_, rfl⟩
  obtain ⟨W, hW⟩ : ∃ W, (w.alloc (.cells #[.int .i64 14, sv text, .int .i64 n, .int .i64 li, .int .i64 co, .slice A1 a c1, .slice A2 b c2, .slice A3 d c3] 49)).alloc (.cells #[.slice none 0 0] 25) = W := ⟨_, rfl⟩
  have HST0 : Hid (ExAt w W OB (.slice none 0 0) (S.take 0)) := hid (by
    rw [← hW, ← hOB]
    exact ⟨(two_new w _ _).2, OwnS.nil _ _ _, (two_new w _ _).1, ((Below.refl _ _).alloc (Nat.le_refl _) _).alloc (by simp) _⟩)
  have HOB := hid hOB
  have HWE := hid hW
  clear hW hOB
  go_enter Tryz.func61, Tryz.ntmps61
  go_wp2_with fail
  have hW := HWE.out
  rw [hW]
  clear hW
  go_loopw [10] (fun v10 wr => ∃ (i : Nat) (v : Value), v10 = .int .i64 i ∧ i ≤ d ∧ ExAt w wr OB v (S.take i)) (fun v10 _ => d - (intOf v10).toNat)
  case atStart => exact ⟨0, _, rfl, by omega, HST0.out⟩
  case round =>
    obtain ⟨i, v, rfl, hi_, hat⟩ := hrel
    have HEX0 := hid hat
    clear hat
    by_cases hlt : i < d
    · have hil : i < ks.length := by rw [HD.out]; exact hlt
      have hiS : i < S.length := by rw [HSL.out]; exact hlt
      have hbr := HEX0.out.below
      obtain ⟨b2, o2, kk, ss, y2, y3, y4, A5, n5, c5, A6, n6, c6, A7, n7, c7, hA3, hr1, e0, e1, e2, e3, e4, e5, e6, e7⟩ := node_at (Sl.more (Sl.below HKK.out.1 hbr) hbr.size) ((HKK.out.2.keep hbr).more hbr.size) hil HD.out.symm
      obtain ⟨wA, hwA⟩ : ∃ wA, wr.alloc (.cells #[.int .i64 kk, .string ss, .int .i64 y2, .int .i64 y3, .int .i64 y4, .slice A5 n5 c5, .slice A6 n6 c6, .slice A7 n7 c7] 49) = wA := ⟨_, rfl⟩
      have hbA : Below wr.heap.size wr wA := by rw [← hwA]; exact (Below.refl _ _).alloc (Nat.le_refl _) _
      have hsA : wA.heap[wr.heap.size]? = some (.cells #[.int .i64 kk, .string ss, .int .i64 y2, .int .i64 y3, .int .i64 y4, .slice A5 n5 c5, .slice A6 n6 c6, .slice A7 n7 c7] 49 (0, 0)) := by rw [← hwA]; exact heap_alloc_new wr _
      have HE := hid (fun w1 (h : Below wA.heap.size wA w1) => HIH.out ks[i] (List.getElem_mem hil) w1 _ q (hr1.far (Nat.le_refl _) (hbA.trans (h.mono hbA.size))) (HOK.out _ (List.getElem_mem hil)) (HNK.out _ (List.getElem_mem hil)) (Nat.le_trans (cntN_mem (List.getElem_mem hil)) HCK.out) ((HX.out.below hbr).below (hbA.trans (h.mono hbA.size))))
      rw [← HSG.out i hil hiS] at HE
      have HST := hid (t_take hiS)
      have HLT : Hid (∀ g, v.ownBlock = some g → g < wr.heap.size) := hid (fun g hg => (HEX0.out.own.lt g hg).2)
      have HBD : Hid (Below wA.heap.size wA wA.drew) := hid (below_drawn wA 1)
      have HBW : Hid (Below wr.heap.size wr wA.drew) := hid (hbA.trans (HBD.out.mono hbA.size))
      have HSD : Hid (wA.drew.heap[wr.heap.size]? = some (.cells #[.int .i64 kk, .string ss, .int .i64 y2, .int .i64 y3, .int .i64 y4, .slice A5 n5 c5, .slice A6 n6 c6, .slice A7 n7 c7] 49 (0, 0))) := hid hsA
      have gk := (HEX0.out.far HBW.out).cell
      have hA := hid hwA
      obtain ⟨Av, nv, cv, rfl⟩ := t_sl_shape HEX0.out.own.ss
      generalize S[i] = X at *
      generalize ks[i] = kx at *
      clear hbr hr1 hbA hsA hil hwA
      subst hA3
      go_wp2_with fail
      have hwA := hA.out
      rw [hwA]
      clear hwA e0 e1 e2 e3 e4 e5 e6 e7
      refine wp_region_held_drew (S := fun w' => w'.heap[wr.heap.size]? = some (.cells #[.int .i64 kk, .string ss, .int .i64 y2, .int .i64 y3, .int .i64 y4, .slice A5 n5 c5, .slice A6 n6 c6, .slice A7 n7 c7] 49 (0, 0))) (by kernel_rfl) HSD.out (fun _ => ?_)
      try simp only [Act.put, List.getElem_toArray, List.getElem_cons_zero, List.getElem_cons_succ, List.setIfInBounds_toArray, List.set_cons_zero, List.set_cons_succ]
      refine wpAnyH_take (i := 1) (v := (.agg #[.int .i64 kk, .string ss, .int .i64 y2, .int .i64 y3, .int .i64 y4, .slice A5 n5 c5, .slice A6 n6 c6, .slice A7 n7 c7])) rfl (by kernel_rfl) (by kernel_rfl) (by kernel_rfl) (fun _ _ _ h => h) (Or.inl ⟨by kernel_rfl, by intro w' hSw; obtain ⟨u0, u1, u2, u3, u4, u5, u6, u7⟩ := t_row8 hSw; go_simp⟩) HSD.out ?_
      try simp only [Act.put, List.getElem_toArray, List.getElem_cons_zero, List.getElem_cons_succ, List.setIfInBounds_toArray, List.set_cons_zero, List.set_cons_succ]
      refine wpAnyH_ready (rs := [0, 2]) (by kernel_rfl) (by simp) ?_
      refine AllReadyH.cons rfl (fun K hK => ?_) (AllReadyH.cons rfl (fun K hK => ?_) AllReadyH.nil)
      · go_simp
        refine hK.out _ _ HSD.out (fun _ => ?_)
        clear hK K
        try simp only [Act.put, List.getElem_toArray, List.getElem_cons_zero, List.getElem_cons_succ, List.setIfInBounds_toArray, List.set_cons_zero, List.set_cons_succ]
        refine wpAnyH_ready (rs := [2]) (by kernel_rfl) (by simp) ?_
        refine AllReadyH.cons rfl (fun K hK => ?_) AllReadyH.nil
        go_simp
        refine (HE.out _ HBD.out).mono ?_
        rintro e w2 ⟨rfl, hb⟩
        have hbr2 := HBW.out.trans (hb.mono HBW.out.size)
        have HEX2 := hid (HEX0.out.far hbr2)
        have HS2 := hid ((hb.block _ (block_lt HSD.out)).trans HSD.out)
        clear hb hbr2
        refine hK.out _ _ HS2.out (fun _ => ?_)
        clear hK K
        try simp only [Act.put, List.getElem_toArray, List.getElem_cons_zero, List.getElem_cons_succ, List.setIfInBounds_toArray, List.set_cons_zero, List.set_cons_succ]
        refine wpAnyH_ready (rs := [3]) (by kernel_rfl) (by simp) ?_
        refine AllReadyH.cons rfl (fun K hK => ?_) AllReadyH.nil
        go_simp
        have HS3 := hid ((((Below.refl w2.heap.size w2).alloc (Nat.le_refl _) (.cells #[sv X] 9)).block _ (block_lt HS2.out)).trans HS2.out)
        refine hK.out _ _ HS3.out (fun _ => ?_)
        clear hK K
        try simp only [Act.put, List.getElem_toArray, List.getElem_cons_zero, List.getElem_cons_succ, List.setIfInBounds_toArray, List.set_cons_zero, List.set_cons_succ]
        refine wpAnyH_ready (rs := [4]) (by kernel_rfl) (by simp) ?_
        refine AllReadyH.cons rfl (fun K hK => ?_) AllReadyH.nil
        refine step_appS rfl (.tmp 14) (.tmp 17) _ rfl (w.heap.size + 2) el_str _ _ rfl rfl (HEX2.out.own.alloc _) (ss_new w2 X _) (by simp; omega) (by have := block_lt HEX2.out.box; rw [World.size_alloc]; omega) (fun v4 w4 hown4 hg4 hbk4 => ?_)
        obtain ⟨g4, c4, n4, rfl⟩ := own_shape hown4 (by simp)
        rw [← HST.out] at hown4
        obtain ⟨x1, x2, x3⟩ := (HEX2.out.far ((Below.refl _ _).alloc (Nat.le_refl _) _)).grown hown4 hg4
        have HS4 := hid ((hg4.block _ (block_lt HS3.out) (by intro e; have := HLT.out _ e.symm; omega)).trans HS3.out)
        have X3 := hid x3
        have HS5 := hid (block_turn HS4.out (turn_set w4 (w.heap.size + 1) 0 (.slice (some ⟨g4, 0, none⟩) n4 c4)) (by have := block_lt HEX0.out.box; omega))
        clear x3 hown4 hg4 hbk4
        refine hK.out _ _ HS4.out (fun _ => ?_)
        clear hK K
        try simp only [Act.put, List.getElem_toArray, List.getElem_cons_zero, List.getElem_cons_succ, List.setIfInBounds_toArray, List.set_cons_zero, List.set_cons_succ]
        refine wpAnyH_ready (rs := [5]) (by kernel_rfl) (by simp) ?_
        refine AllReadyH.cons rfl (fun K hK => ?_) AllReadyH.nil
        go_simp
        refine hK.out _ _ HS5.out (fun _ => ?_)
        clear hK K
        try simp only [Act.put, List.getElem_toArray, List.getElem_cons_zero, List.getElem_cons_succ, List.setIfInBounds_toArray, List.set_cons_zero, List.set_cons_succ]
        refine wpAnyH_done (by kernel_rfl) ?_ _
        go_wp2_with fail
        go_roundw
        case rel => exact ⟨i + 1, _, rfl, by omega, X3.out⟩
        case measure => simp [intOf]; omega
      · go_simp
        refine (HE.out _ HBD.out).mono ?_
        rintro e w2 ⟨rfl, hb⟩
        have hbr2 := HBW.out.trans (hb.mono HBW.out.size)
        have HEX2 := hid (HEX0.out.far hbr2)
        have HS2 := hid ((hb.block _ (block_lt HSD.out)).trans HSD.out)
        clear hb hbr2
        have gk2 := HEX2.out.cell
        refine hK.out _ _ HS2.out (fun _ => ?_)
        clear hK K
        try simp only [Act.put, List.getElem_toArray, List.getElem_cons_zero, List.getElem_cons_succ, List.setIfInBounds_toArray, List.set_cons_zero, List.set_cons_succ]
        refine wpAnyH_ready (rs := [0, 3]) (by kernel_rfl) (by simp) ?_
        refine AllReadyH.cons rfl (fun K hK => ?_) (AllReadyH.cons rfl (fun K hK => ?_) AllReadyH.nil)
        · go_simp
          refine hK.out _ _ HS2.out (fun _ => ?_)
          clear hK K
          try simp only [Act.put, List.getElem_toArray, List.getElem_cons_zero, List.getElem_cons_succ, List.setIfInBounds_toArray, List.set_cons_zero, List.set_cons_succ]
          refine wpAnyH_ready (rs := [3]) (by kernel_rfl) (by simp) ?_
          refine AllReadyH.cons rfl (fun K hK => ?_) AllReadyH.nil
          go_simp
          have HS3 := hid ((((Below.refl w2.heap.size w2).alloc (Nat.le_refl _) (.cells #[sv X] 9)).block _ (block_lt HS2.out)).trans HS2.out)
          refine hK.out _ _ HS3.out (fun _ => ?_)
          clear hK K
          try simp only [Act.put, List.getElem_toArray, List.getElem_cons_zero, List.getElem_cons_succ, List.setIfInBounds_toArray, List.set_cons_zero, List.set_cons_succ]
          refine wpAnyH_ready (rs := [4]) (by kernel_rfl) (by simp) ?_
          refine AllReadyH.cons rfl (fun K hK => ?_) AllReadyH.nil
          refine step_appS rfl (.tmp 14) (.tmp 17) _ rfl (w.heap.size + 2) el_str _ _ rfl rfl (HEX2.out.own.alloc _) (ss_new w2 X _) (by simp; omega) (by have := block_lt HEX2.out.box; rw [World.size_alloc]; omega) (fun v4 w4 hown4 hg4 hbk4 => ?_)
          obtain ⟨g4, c4, n4, rfl⟩ := own_shape hown4 (by simp)
          rw [← HST.out] at hown4
          obtain ⟨x1, x2, x3⟩ := (HEX2.out.far ((Below.refl _ _).alloc (Nat.le_refl _) _)).grown hown4 hg4
          have HS4 := hid ((hg4.block _ (block_lt HS3.out) (by intro e; have := HLT.out _ e.symm; omega)).trans HS3.out)
          have X3 := hid x3
          have HS5 := hid (block_turn HS4.out (turn_set w4 (w.heap.size + 1) 0 (.slice (some ⟨g4, 0, none⟩) n4 c4)) (by have := block_lt HEX0.out.box; omega))
          clear x3 hown4 hg4 hbk4
          refine hK.out _ _ HS4.out (fun _ => ?_)
          clear hK K
          try simp only [Act.put, List.getElem_toArray, List.getElem_cons_zero, List.getElem_cons_succ, List.setIfInBounds_toArray, List.set_cons_zero, List.set_cons_succ]
          refine wpAnyH_ready (rs := [5]) (by kernel_rfl) (by simp) ?_
          refine AllReadyH.cons rfl (fun K hK => ?_) AllReadyH.nil
          go_simp
          refine hK.out _ _ HS5.out (fun _ => ?_)
          clear hK K
          try simp only [Act.put, List.getElem_toArray, List.getElem_cons_zero, List.getElem_cons_succ, List.setIfInBounds_toArray, List.set_cons_zero, List.set_cons_succ]
          refine wpAnyH_done (by kernel_rfl) ?_ _
          go_wp2_with fail
          go_roundw
          case rel => exact ⟨i + 1, _, rfl, by omega, X3.out⟩
          case measure => simp [intOf]; omega
        · go_simp
          have HS3 := hid ((((Below.refl w2.heap.size w2).alloc (Nat.le_refl _) (.cells #[sv X] 9)).block _ (block_lt HS2.out)).trans HS2.out)
          have gk3 := (HEX2.out.far ((Below.refl w2.heap.size w2).alloc (Nat.le_refl _) (.cells #[sv X] 9))).cell
          refine hK.out _ _ HS3.out (fun _ => ?_)
          clear hK K
          try simp only [Act.put, List.getElem_toArray, List.getElem_cons_zero, List.getElem_cons_succ, List.setIfInBounds_toArray, List.set_cons_zero, List.set_cons_succ]
          refine wpAnyH_ready (rs := [0]) (by kernel_rfl) (by simp) ?_
          refine AllReadyH.cons rfl (fun K hK => ?_) AllReadyH.nil
          go_simp
          refine hK.out _ _ HS3.out (fun _ => ?_)
          clear hK K
          try simp only [Act.put, List.getElem_toArray, List.getElem_cons_zero, List.getElem_cons_succ, List.setIfInBounds_toArray, List.set_cons_zero, List.set_cons_succ]
          refine wpAnyH_ready (rs := [4]) (by kernel_rfl) (by simp) ?_
          refine AllReadyH.cons rfl (fun K hK => ?_) AllReadyH.nil
          refine step_appS rfl (.tmp 14) (.tmp 17) _ rfl (w.heap.size + 2) el_str _ _ rfl rfl (HEX2.out.own.alloc _) (ss_new w2 X _) (by simp; omega) (by have := block_lt HEX2.out.box; rw [World.size_alloc]; omega) (fun v4 w4 hown4 hg4 hbk4 => ?_)
          obtain ⟨g4, c4, n4, rfl⟩ := own_shape hown4 (by simp)
          rw [← HST.out] at hown4
          obtain ⟨x1, x2, x3⟩ := (HEX2.out.far ((Below.refl _ _).alloc (Nat.le_refl _) _)).grown hown4 hg4
          have HS4 := hid ((hg4.block _ (block_lt HS3.out) (by intro e; have := HLT.out _ e.symm; omega)).trans HS3.out)
          have X3 := hid x3
          have HS5 := hid (block_turn HS4.out (turn_set w4 (w.heap.size + 1) 0 (.slice (some ⟨g4, 0, none⟩) n4 c4)) (by have := block_lt HEX0.out.box; omega))
          clear x3 hown4 hg4 hbk4
          refine hK.out _ _ HS4.out (fun _ => ?_)
          clear hK K
          try simp only [Act.put, List.getElem_toArray, List.getElem_cons_zero, List.getElem_cons_succ, List.setIfInBounds_toArray, List.set_cons_zero, List.set_cons_succ]
          refine wpAnyH_ready (rs := [5]) (by kernel_rfl) (by simp) ?_
          refine AllReadyH.cons rfl (fun K hK => ?_) AllReadyH.nil
          go_simp
          refine hK.out _ _ HS5.out (fun _ => ?_)
          clear hK K
          try simp only [Act.put, List.getElem_toArray, List.getElem_cons_zero, List.getElem_cons_succ, List.setIfInBounds_toArray, List.set_cons_zero, List.set_cons_succ]
          refine wpAnyH_done (by kernel_rfl) ?_ _
          go_wp2_with fail
          go_roundw
          case rel => exact ⟨i + 1, _, rfl, by omega, X3.out⟩
          case measure => simp [intOf]; omega
    · obtain rfl : i = d := by omega
      have hex := HEX0.out
      rw [List.take_of_length_le (by rw [HSL.out]; omega)] at hex
      have hbr := hex.below
      obtain ⟨g0, g1, g2, g3, g4, g5, g6, g7⟩ := t_row8 (hex.node.trans (congrArg some HOB.out.symm))
      have gb := hex.cell
      have hown := hex.own
      have HBR := hid hbr
      clear hlt HEX0 hex
      have hd0 := HD0.out
      have hsl := HSL.out
      subst hd0
      obtain ⟨s0, s1, rfl⟩ := len_two hsl
      obtain ⟨g, c, rfl, hgb, hgl, hgc, hgm⟩ := own_form hown.row (by simp)
      simp only [List.length_cons, List.length_nil, Nat.zero_add] at gb hown hgc
      have d0 := hown.cell 0 (by simp)
      have d1 := hown.cell 1 (by simp)
      simp only [List.getElem_cons_zero, List.getElem_cons_succ] at d0 d1
      have HT : Hid (nodeS 14 text n ts ns [s0, s1] = ([40] : Bt) ++ (s0 ++ ([32] : Bt) ++ text ++ ([32] : Bt) ++ s1) ++ ([41] : Bt)) := hid (by simp [nodeS, cat])
      rw [HT.out] at hlen
      simp only [List.length_append, List.length_cons, List.length_nil] at hlen
      have hz0 := sv_size s0
      have hz1 := sv_size text
      have hz2 := sv_size s1
      have q0 : ¬ (9223372036854775807 < s0.length + 1) := by omega
      have q1 : ¬ (9223372036854775807 < s0.length + 1 + text.length) := by omega
      have q2 : ¬ (9223372036854775807 < s0.length + 1 + text.length + 1) := by omega
      have q3 : ¬ (9223372036854775807 < s0.length + 1 + text.length + 1 + s1.length) := by omega
      have q4 : ¬ (9223372036854775807 < 1 + (s0.length + 1 + text.length + 1 + s1.length)) := by omega
      have q5 : ¬ (9223372036854775807 < 1 + (s0.length + 1 + text.length + 1 + s1.length) + 1) := by omega
      have G1 := hid g1
      have G2 := hid g2
      have G5 := hid g5
      have GB := hid gb
      have D0 := hid d0
      have D1 := hid d1
      have HB0 : Hid (Below wr.heap.size wr wr.drew) := hid (below_drawn wr 1)
      clear g1 g2 g3 g4 g5 g6 g7 gb hown hbr hlen d0 d1
      go_wp2_with fail
      refine wp_region_held_drew (S := fun w' => Below wr.heap.size wr w') (by kernel_rfl) HB0.out (fun _ => ?_)
      try simp only [Act.put, List.getElem_toArray, List.getElem_cons_zero, List.getElem_cons_succ, List.setIfInBounds_toArray, List.set_cons_zero, List.set_cons_succ]
      refine tkf 0 (.slice (some ⟨g, 0, none⟩) 2 c) (kp1 GB.out) HB0.out ?_
      refine tk 1 (.pointer (some ⟨g, 0, none⟩)) HB0.out ?_
      refine tkf 2 (sv s0) (kp1 D0.out) HB0.out ?_
      refine tk 3 (.string ((⟨s0.toArray⟩ : ByteArray) ++ ⟨#[32]⟩)) HB0.out ?_
      refine tk 4 (.pointer (some ⟨w.heap.size, 1, none⟩)) HB0.out ?_
      refine tkf 5 (sv text) (kp1 G1.out) HB0.out ?_
      refine tk 6 (.string ((⟨s0.toArray⟩ : ByteArray) ++ ⟨#[32]⟩ ++ ⟨text.toArray⟩)) HB0.out ?_
      refine tk 7 (.string ((⟨s0.toArray⟩ : ByteArray) ++ ⟨#[32]⟩ ++ ⟨text.toArray⟩ ++ ⟨#[32]⟩)) HB0.out ?_
      refine tkf 8 (.slice (some ⟨g, 0, none⟩) 2 c) (kp1 GB.out) HB0.out ?_
      refine tk 9 (.pointer (some ⟨g, 1, none⟩)) HB0.out ?_
      refine tkf 10 (sv s1) (kp1 D1.out) HB0.out ?_
      refine tk 11 (.string ((⟨s0.toArray⟩ : ByteArray) ++ ⟨#[32]⟩ ++ ⟨text.toArray⟩ ++ ⟨#[32]⟩ ++ ⟨s1.toArray⟩)) HB0.out ?_
      refine tk 12 (.string ((⟨s0.toArray⟩ : ByteArray) ++ ⟨#[32]⟩ ++ ⟨text.toArray⟩ ++ ⟨#[32]⟩ ++ ⟨s1.toArray⟩)) HB0.out ?_
      refine wpAnyH_done (by kernel_rfl) ?_ _
      go_wp2_with fail
      go_ret
      refine ⟨?_, HBR.out.trans (HB0.out.mono HBR.out.size)⟩
      rw [HT.out]
      have e : (⟨([40] : Bt).toArray⟩ : ByteArray) ++ ((⟨s0.toArray⟩ : ByteArray) ++ ⟨([32] : Bt).toArray⟩ ++ ⟨text.toArray⟩ ++ ⟨([32] : Bt).toArray⟩ ++ ⟨s1.toArray⟩) ++ ⟨([41] : Bt).toArray⟩ = ⟨(([40] : Bt) ++ (s0 ++ ([32] : Bt) ++ text ++ ([32] : Bt) ++ s1) ++ ([41] : Bt)).toArray⟩ := by
        rw [str_append, str_append, str_append, str_append, str_append, str_append]
      exact congrArg (fun b => Ending.returned (Value.string b)) e
end Go.Proofs.YtmbppnbekkbibaaGreatDoor
end
section
/- Expressions of names and operations alone, as text. -/
set_option linter.unusedVariables false
namespace Go.Proofs.YtmbppnbekkbibaaGreatDoor
open Go.RowKit

theorem simple_name (w : World) (z : List Value) (k : Int) (text : Bt) (n li co : Int) (ts : List TyD) (ns : List Bt) (ks : List NoD) (hr : NoR w w.heap.size z (.mk k text n li co ts ns ks)) (hk : k = 4) :
    Calls Tryz.prog 118 #[.agg z.toArray] w fun e w' => e = .returned (sv (simpleS k text n ts)) ∧ Below w.heap.size w w' := by
  subst hk
  obtain ⟨A1, c1, A2, c2, A3, c3, xt, xk, rfl, s1, r1, s2, s3, r3⟩ := hr.parts
  clear hr s1 r1 s2 s3 r3
  rw [show simpleS 4 text n ts = text from rfl]
  go_enter Tryz.func118, Tryz.ntmps118
  go_wp2_with fail
  go_ret
  exact ⟨rfl, (Below.refl _ _).alloc (Nat.le_refl _) _⟩
set_option maxRecDepth 100000 in
set_option maxHeartbeats 8000000 in
theorem expr_name (k : Int) (hk : k = 4) (text : Bt) (n li co : Int) (ts : List TyD) (ns : List Bt) (ks : List NoD) (ih : ∀ y ∈ ks, ExC y) : ExC (.mk k text n li co ts ns ks) := by
  intro w z m hr hok hnd hc hX
  have hlen := expr_len _ m hnd
  obtain ⟨q, rfl, hk20, hown, hns, hts, hkk⟩ := node_open hnd
  rw [own_kids, Bool.and_eq_true, Bool.and_eq_true, Bool.and_eq_true, Bool.and_eq_true, decide_eq_true_eq, decide_eq_true_eq, decide_eq_true_eq, decide_eq_true_eq] at hown
  obtain ⟨⟨⟨⟨hn0, hn1⟩, htx⟩, hlo, hhi⟩, hkn, hkd⟩ := hown
  have htl := text_len htx
  rw [okN] at hok
  obtain ⟨ok1, ok2, ok3, ok4, ok5, ok6, ok7, ok8⟩ := hok
  obtain ⟨A1, c1, A2, c2, A3, c3, xt, xk, rfl, s1, r1, s2, s3, r3⟩ := hr.parts
  have l1 := (t_sl_len s1).2
  have l2 := (t_sl_len s2).2
  have l3 := (t_sl_len s3).2
  rw [exprS] at hlen ⊢
  rw [cntN] at hc hlen
  have hcT : cntTs ts ≤ 100000 := by omega
  have hcK : cntNs ks ≤ 100000 := by omega
  have hdc : ks.length ≤ 100000 := Nat.le_trans (cntNs_len ks) hcK
  obtain ⟨S, hS⟩ : ∃ S, exprSs ks = S := ⟨_, rfl⟩
  have hSL0 : S.length = ks.length := by rw [← hS, exprSs_length]
  have HSG : Hid (∀ (i : Nat) (h : i < ks.length) (h2 : i < S.length), S[i] = exprS ks[i]) := hid (by
    intro i h h2
    subst hS
    simp [exprSs_map])
  rw [hS] at hlen ⊢
  have HKK := hid (And.intro s3 r3)
  have HR := hid hr
  have HTT := hid (And.intro s1 r1)
  have HSS := hid s2
  have HIH := hid ih
  have HOK := hid (okNs_mem.1 ok8)
  have HNK := hid hkk
  have HCK := hid hcK
  have HCT := hid hcT
  have HTS := hid hts
  have HNS := hid hns
  have HX := hid hX
  have hn64 := ok3
  clear hr s1 r1 s2 s3 r3 ih ok1 ok2 ok3 ok4 ok5 ok6 ok7 ok8 hkk hts hns hX hS hnd hk20
  obtain ⟨a, hA⟩ : ∃ a, ts.length = a := ⟨_, rfl⟩
  obtain ⟨b, hB⟩ : ∃ b, ns.length = b := ⟨_, rfl⟩
  obtain ⟨d, hD⟩ : ∃ d, ks.length = d := ⟨_, rfl⟩
  rw [hA] at l1 HTT hlo hhi
  rw [hB] at l2 HSS hkn hkd
  rw [hD] at l3 HKK hkd hdc hSL0
  rw [hA, hB, hD] at HR
  rw [hA, hB, hD]
  have HA := hid hA
  have HBN := hid hB
  have HD := hid hD
  have HSL := hid hSL0
  clear hA hB hD
  have hk0 : (hasD k).kids = 0 := by subst hk; rfl
  have hd0 : d = 0 := by
    rw [hk0] at hkd
    unfold kidsOf at hkd
    rw [if_neg (by decide)] at hkd
    omega
  have HT : Hid (nodeS k text n ts ns S = simpleS k text n ts) := hid (by subst hk; rfl)
  have HKK0 := hid hk
  have HTL := hid htl
  have HN64 := hid hn64
  have q7 : (k == 7) = false := by rw [beq_eq_false_iff_ne]; subst hk; decide
  have q9 : (k == 9) = false := by rw [beq_eq_false_iff_ne]; subst hk; decide
  have q10 : (k == 10) = false := by rw [beq_eq_false_iff_ne]; subst hk; decide
  have q8 : (k == 8) = false := by rw [beq_eq_false_iff_ne]; subst hk; decide
  have q17 : (k == 17) = false := by rw [beq_eq_false_iff_ne]; subst hk; decide
  have q5 : (k == 5) = false := by rw [beq_eq_false_iff_ne]; subst hk; decide
  have q6 : (k == 6) = false := by rw [beq_eq_false_iff_ne]; subst hk; decide
  have q11 : (k == 11) = false := by rw [beq_eq_false_iff_ne]; subst hk; decide
  have q12 : (k == 12) = false := by rw [beq_eq_false_iff_ne]; subst hk; decide
  have q13 : (k == 13) = false := by rw [beq_eq_false_iff_ne]; subst hk; decide
  have q14 : (k == 14) = false := by rw [beq_eq_false_iff_ne]; subst hk; decide
  have q15 : (k == 15) = false := by rw [beq_eq_false_iff_ne]; subst hk; decide
  have q16 : (k == 16) = false := by rw [beq_eq_false_iff_ne]; subst hk; decide
  subst hd0
  clear hk hk0 hkd hkn htx hlo hhi hn0 hn1 hn64 HKK HIH HOK HNK HCK HSG
  obtain ⟨OB, hOB⟩ : ∃ OB, Obj.cells #[.int .i64 k, sv text, .int .i64 n, .int .i64 li, .int .i64 co, .slice A1 a c1, .slice A2 b c2, .slice A3 0 c3] 49 (0, 0) = OB := ⟨_, rfl⟩
  obtain ⟨W, hW⟩ : ∃ W, (w.alloc (.cells #[.int .i64 k, sv text, .int .i64 n, .int .i64 li, .int .i64 co, .slice A1 a c1, .slice A2 b c2, .slice A3 0 c3] 49)).alloc (.cells #[.slice none 0 0] 25) = W := ⟨_, rfl⟩
  have HST0 : Hid (ExAt w W OB (.slice none 0 0) (S.take 0)) := hid (by
    rw [← hW, ← hOB]
    exact ⟨(two_new w _ _).2, OwnS.nil _ _ _, (two_new w _ _).1, ((Below.refl _ _).alloc (Nat.le_refl _) _).alloc (by simp) _⟩)
  have HOB := hid hOB
  have HWE := hid hW
  clear hW hOB
  go_enter Tryz.func61, Tryz.ntmps61
  go_wp2_with fail
  have hW := HWE.out
  rw [hW]
  clear hW
  go_loopw [10] (fun v10 wr => v10 = .int .i64 0 ∧ wr = W) (fun _ _ => 0)
  case atStart => exact ⟨rfl, rfl⟩
  case round =>
    obtain ⟨rfl, rfl⟩ := hrel
    have hat := HST0.out
    have hbr := hat.below
    obtain ⟨g0, g1, g2, g3, g4, g5, g6, g7⟩ := t_row8 (hat.node.trans (congrArg some HOB.out.symm))
    have HC := hid (simple_name wr _ k text n li co ts ns ks ((HR.out.keep hbr).more hbr.size) HKK0.out)
    have HB := hid hbr
    clear hat hbr
    go_wp2_with fail
    refine HC.out.mono ?_
    rintro e w2 ⟨rfl, hb⟩
    go_wp2_with fail
    go_ret
    exact ⟨by rw [HT.out]; rfl, HB.out.trans (hb.mono HB.out.size)⟩
/-- Names, and operations of two. -/
inductive SmN : NoD → Prop
  | name {t : Bt} {n l c : Int} {ts : List TyD} {ns : List Bt} {ks : List NoD} (h : ks = []) : SmN (.mk 4 t n l c ts ns ks)
  | op {t : Bt} {n l c : Int} {ts : List TyD} {ns : List Bt} {a b : NoD} : SmN a → SmN b → SmN (.mk 14 t n l c ts ns [a, b])
theorem expr_small {x : NoD} (h : SmN x) : ExC x := by
  induction h with
  | @name t n l c ts ns ks h => subst h; exact expr_name 4 rfl t n l c ts ns [] (fun y hy => by cases hy)
  | @op t n l c ts ns a b _ _ ha hb => exact expr_k14 t n l c ts ns [a, b] (fun y hy => by
      rcases List.mem_cons.1 hy with rfl | hy
      · exact ha
      · rcases List.mem_cons.1 hy with rfl | hy
        · exact hb
        · cases hy)
set_option maxRecDepth 100000 in
theorem texprs_any (w : World) (z : List Value) (x : NoD) (hsm : SmN x) (hr : NoR w w.heap.size z x) (hok : okN x) (hc : cntN x ≤ 100000) (hX : LaidT w) :
    Calls Tryz.prog 31 #[.agg z.toArray] w fun e w' => e = .returned (sv (exprT x)) ∧ Below w.heap.size w w' := by
  obtain ⟨k, s, v2, v3, v4, A1, n1, c1, A2, n2, c2, A3, n3, c3, rfl⟩ := hr.shape
  obtain ⟨W1, hW1⟩ : ∃ W1, W1 = w.alloc (.cells #[.int .i64 k, .string s, .int .i64 v2, .int .i64 v3, .int .i64 v4, .slice A1 n1 c1, .slice A2 n2 c2, .slice A3 n3 c3] 49) := ⟨_, rfl⟩
  have hb1 : Below w.heap.size w W1 := by rw [hW1]; exact (Below.refl _ _).alloc (Nat.le_refl _) _
  have hbx : W1.heap[w.heap.size]? = some (.cells #[.int .i64 k, .string s, .int .i64 v2, .int .i64 v3, .int .i64 v4, .slice A1 n1 c1, .slice A2 n2 c2, .slice A3 n3 c3] 49 (0, 0)) := by rw [hW1]; exact heap_alloc_new w _
  have HW := node_all 25 (by omega) W1 _ x (hr.far (Nat.le_refl _) hb1) hok (hX.below hb1)
  rw [hW1] at HW
  have HW := hid HW
  have HB := hid hb1
  have HWE := hid hW1
  have HBX := hid hbx
  have HR := hid hr
  have HX := hid hX
  have HOK := hid hok
  clear hb1 hbx hr hX hW1 hok
  cases hq : nodeB 25 x with
  | false =>
    have HT : Hid (exprT x = []) := hid (by unfold exprT; rw [hq]; rfl)
    rw [hq] at HW
    rw [HT.out]
    clear hq HT
    go_enter Tryz.func31, Tryz.ntmps31
    go_wp2_with fail
    refine HW.out.mono ?_
    rintro e w2 ⟨rfl, hb⟩
    rw [← HWE.out] at hb
    go_wp2_with fail
    go_ret
    exact ⟨rfl, HB.out.trans (hb.mono HB.out.size)⟩
  | true =>
    have HT : Hid (exprT x = exprS x) := hid (by unfold exprT; rw [hq]; rfl)
    rw [hq] at HW
    rw [HT.out]
    have HS : Hid (∀ w2, Below w.heap.size w w2 → Calls Tryz.prog 61 #[.agg [.int .i64 k, .string s, .int .i64 v2, .int .i64 v3, .int .i64 v4, .slice A1 n1 c1, .slice A2 n2 c2, .slice A3 n3 c3].toArray] w2 fun e w' => e = .returned (sv (exprS x)) ∧ Below w2.heap.size w2 w') := hid (fun w2 hb2 => expr_small hsm w2 _ 25 (HR.out.far (Nat.le_refl _) hb2) HOK.out hq hc (HX.out.below hb2))
    clear hq HT HR
    generalize exprS x = u at *
    go_enter Tryz.func31, Tryz.ntmps31
    go_wp2_with fail
    refine HW.out.mono ?_
    rintro e w2 ⟨rfl, hb⟩
    rw [← HWE.out] at hb
    have HB2 := hid (HB.out.trans (hb.mono HB.out.size))
    obtain ⟨g0, g1, g2, g3, g4, g5, g6, g7⟩ := t_row8 ((hb.block _ (block_lt HBX.out)).trans HBX.out)
    clear hb
    go_wp2_with fail
    refine (HS.out _ HB2.out).mono ?_
    rintro e w3 ⟨rfl, hb3⟩
    go_wp2_with fail
    go_ret
    exact ⟨rfl, HB2.out.trans (hb3.mono HB2.out.size)⟩
end Go.Proofs.YtmbppnbekkbibaaGreatDoor
end
section
/- The examples of chapter 5: what they are read as; the law's awake. -/
set_option linter.unusedVariables false
namespace Go.Proofs.YtmbppnbekkbibaaGreatDoor
open Go.RowKit

def exA : NoD := .mk 14 [45] 0 1 7 [] [] [(.mk 14 [45] 0 1 3 [] [] [(.mk 4 [97] 0 1 1 [] [] []), (.mk 4 [98] 0 1 5 [] [] [])]), (.mk 14 [42] 0 1 11 [] [] [(.mk 4 [99] 0 1 9 [] [] []), (.mk 4 [100] 0 1 13 [] [] [])])]
def exB : TyD := .mk 6 [] [] [(.mk 7 [] [] [(.mk 3 [] [] []), (.mk 1 [] [] [])]), (.mk 5 [] [[97]] [(.mk 4 [] [] [])])]
def exC : MoD := ⟨[], [⟨[102], false, [], [120], [(.mk 0 [] [] []), (.mk 0 [] [] [])], (.mk 4 [120] 0 1 11 [] [] []), 1, 1⟩]⟩
theorem run_a : wholeP (levP 100).expr [97, 32, 45, 32, 98, 32, 45, 32, 99, 32, 42, 32, 100] = (some exA, (0, 0, 0)) := by kernel_rfl
theorem run_b : wholeP (levP 100).typ [105, 110, 116, 32, 124, 32, 110, 117, 108, 108, 32, 45, 62, 32, 123, 97, 58, 32, 115, 116, 114, 125] = (some exB, (0, 0, 0)) := by kernel_rfl
theorem run_c : wholeP moduleP [102, 110, 32, 102, 40, 120, 41, 32, 61, 32, 120, 59] = (some exC, (0, 0, 0)) := by kernel_rfl
theorem run_d : wholeP moduleP [102, 110, 32, 102, 40, 120, 41, 32, 61, 32, 59] = (none, (1, 11, 7)) := by kernel_rfl
theorem sm_a : SmN exA := .op (.op (.name rfl) (.name rfl)) (.op (.name rfl) (.name rfl))
theorem show_a : exprT exA = [40, 40, 97, 32, 45, 32, 98, 41, 32, 45, 32, 40, 99, 32, 42, 32, 100, 41, 41] := by kernel_rfl
theorem wake_mod {w : World} {F : Nat → Prop} {z : List Value} (h : MoG w F z exC) : ∃ A1 n1 c1 b o c2 A2 c3, z = [.slice A1 n1 c1, .slice (some ⟨b, o, none⟩) 1 c2] ∧ w.cell? ⟨b, o + 4, none⟩ = some (.slice A2 2 c3) ∧ b < w.heap.size ∧ 1 ≤ c2 := by
  obtain ⟨A1, c1, A2, c2, xi, xd, rfl, h1, h2, h3, h4⟩ := h.all.parts
  obtain ⟨A, n, c, hv, hl, hn, hc, hx⟩ := h3
  injection hv with hv1 hv2 hv3
  have hv2 : (1 : Nat) = n := hv2
  subst hv1 hv3
  subst hv2
  obtain ⟨b, o, rfl, hb, hcell⟩ := hx (by omega)
  have h4 : TRow (DeR w w.heap.size) 15 xd [⟨[102], false, [], [120], [.mk 0 [] [] [], .mk 0 [] [] []], .mk 4 [120] 0 1 11 [] [] [], 1, 1⟩] := h4
  cases h4 with
  | cons hz hd ht =>
    cases ht
    obtain ⟨B1, d1, B2, d2, k, s, n, l, c, A3, n3, c3, A4, n4, c4, A5, n5, c5, xv, xt, rfl, _⟩ := hd.parts
    exact ⟨A1, _, c1, b, o, c2, B2, d2, rfl, hcell 4 _ rfl, hb, hn⟩
theorem wake_node {w : World} {F : Nat → Prop} {z : List Value} (h : NoG w F z exA) : ∃ A1 n1 c1 A2 n2 c2 A3 n3 c3, z = [.int .i64 14, sv [45], .int .i64 0, .int .i64 1, .int .i64 7, .slice A1 n1 c1, .slice A2 n2 c2, .slice A3 n3 c3] := by
  cases h with
  | mk h1 h2 h3 h4 h5 =>
    obtain ⟨A1, n1, c1, rfl, _⟩ := h1
    obtain ⟨A2, n2, c2, rfl, _⟩ := h3
    obtain ⟨A3, n3, c3, rfl, _⟩ := h4
    exact ⟨_, _, _, _, _, _, _, _, _, rfl⟩
theorem wake_type {w : World} {F : Nat → Prop} {z : List Value} (h : TyG w F z exB) : ∃ A1 n1 c1 A2 n2 c2, z = [.int .i64 6, sv [], .slice A1 n1 c1, .slice A2 n2 c2] := by
  cases h with
  | mk h1 h2 h3 =>
    obtain ⟨A1, n1, c1, rfl, _⟩ := h1
    obtain ⟨A2, n2, c2, rfl, _⟩ := h2
    exact ⟨_, _, _, _, _, _, rfl⟩
set_option maxRecDepth 100000 in
set_option maxHeartbeats 8000000 in
theorem pawake_any (w : World) (hX : LaidX w) : Calls Tryz.prog 20 #[] w fun e w' => e = .returned (.bool true) ∧ Below w.heap.size w w' := by
  have HX := hid hX
  have HA := hid (tnod_any w [97, 32, 45, 32, 98, 32, 45, 32, 99, 32, 42, 32, 100] hX)
  clear hX
  go_enter Tryz.func20, Tryz.ntmps20
  go_wp2_with fail
  refine (HA.out).mono ?_
  rintro e w1 ⟨hb1, z1, rfl, hz1⟩
  rw [show okP (levP 100).expr [97, 32, 45, 32, 98, 32, 45, 32, 99, 32, 42, 32, 100] zeroN = exA by unfold okP; rw [run_a]; rfl] at hz1
  rw [show (wholeP (levP 100).expr [97, 32, 45, 32, 98, 32, 45, 32, 99, 32, 42, 32, 100]).2 = (0, 0, 0) by rw [run_a]]
  obtain ⟨A1, n1, c1, A2, n2, c2, A3, n3, c3, rfl⟩ := wake_node hz1
  have hs1 := hb1.size
  have HB1 := hid hb1
  have HZ1 := hid hz1
  have HX1 := hid (HX.out.below hb1)
  obtain ⟨W1, hW1⟩ : ∃ W1, (w1.alloc (.cells #[.int .i64 14, .string ⟨#[45]⟩, .int .i64 0, .int .i64 1, .int .i64 7, .slice A1 n1 c1, .slice A2 n2 c2, .slice A3 n3 c3] 49)).alloc (.cells #[.int .i64 0, .int .i64 0, .int .i64 0, .int .i64 0] 55) = W1 := ⟨_, rfl⟩
  have hbw1 : Below w1.heap.size w1 W1 := by rw [← hW1]; exact new2 _ _ _
  obtain ⟨_, _, hn1, hd1⟩ := after2 (G := fun _ => False) (Turn.refl _ ((w1.alloc (.cells #[.int .i64 14, .string ⟨#[45]⟩, .int .i64 0, .int .i64 1, .int .i64 7, .slice A1 n1 c1, .slice A2 n2 c2, .slice A3 n3 c3] 49)).alloc (.cells #[.int .i64 0, .int .i64 0, .int .i64 0, .int .i64 0] 55)))
  rw [hW1] at hn1 hd1
  have hsW1 : W1.heap.size = w1.heap.size + 2 := by rw [← hW1]; simp
  have HN1 := hid (hn1 id)
  have HD1 := hid (hd1 id)
  have HBW1 := hid (hb1.trans (hbw1.mono hs1))
  have HXW1 := hid (HX1.out.below hbw1)
  have HZW1 := hid (hz1.turn (Turn.of_below (F := fun _ => False) hbw1) (fun _ _ _ => id))
  have HW1 := hid hW1
  have HT := hid (ttyp_any W1 [105, 110, 116, 32, 124, 32, 110, 117, 108, 108, 32, 45, 62, 32, 123, 97, 58, 32, 115, 116, 114, 125] HXW1.out)
  clear hb1 hz1 hbw1 hn1 hd1 hW1
  go_wp2_with fail
  rw [HW1.out]
  refine (HT.out).mono ?_
  rintro e w2 ⟨hb2, z2, rfl, hz2⟩
  rw [show okP (levP 100).typ [105, 110, 116, 32, 124, 32, 110, 117, 108, 108, 32, 45, 62, 32, 123, 97, 58, 32, 115, 116, 114, 125] zeroT = exB by unfold okP; rw [run_b]; rfl] at hz2
  rw [show (wholeP (levP 100).typ [105, 110, 116, 32, 124, 32, 110, 117, 108, 108, 32, 45, 62, 32, 123, 97, 58, 32, 115, 116, 114, 125]).2 = (0, 0, 0) by rw [run_b]]
  obtain ⟨B1, m1, e1, B2, m2, e2, rfl⟩ := wake_type hz2
  have hs2 := hb2.size
  obtain ⟨W2, hW2⟩ : ∃ W2, (w2.alloc (.cells #[.int .i64 6, .string ⟨#[]⟩, .slice B1 m1 e1, .slice B2 m2 e2] 63)).alloc (.cells #[.int .i64 0, .int .i64 0, .int .i64 0, .int .i64 0] 55) = W2 := ⟨_, rfl⟩
  have hbw2 : Below w2.heap.size w2 W2 := by rw [← hW2]; exact new2 _ _ _
  obtain ⟨_, _, hn2, hd2⟩ := after2 (G := fun _ => False) (Turn.refl _ ((w2.alloc (.cells #[.int .i64 6, .string ⟨#[]⟩, .slice B1 m1 e1, .slice B2 m2 e2] 63)).alloc (.cells #[.int .i64 0, .int .i64 0, .int .i64 0, .int .i64 0] 55)))
  rw [hW2] at hn2 hd2
  have hsW2 : W2.heap.size = w2.heap.size + 2 := by rw [← hW2]; simp
  have hb12 := hb2.trans (hbw2.mono hs2)
  have HN2 := hid (hn2 id)
  have HD2 := hid (hd2 id)
  have HBW2 := hid (HBW1.out.trans (hb12.mono (by omega)))
  have HB12 := hid hb12
  have HXW2 := hid (HXW1.out.below hb12)
  have HW2 := hid hW2
  have HP := hid (tmod_any W2 [102, 110, 32, 102, 40, 120, 41, 32, 61, 32, 120, 59] HXW2.out)
  clear hb2 hz2 hbw2 hn2 hd2 hW2 hb12
  go_wp2_with fail
  rw [HW2.out]
  refine (HP.out).mono ?_
  rintro e w3 ⟨hb3, z3, rfl, hz3⟩
  rw [show okP moduleP [102, 110, 32, 102, 40, 120, 41, 32, 61, 32, 120, 59] zeroM = exC by unfold okP; rw [run_c]; rfl] at hz3
  rw [show (wholeP moduleP [102, 110, 32, 102, 40, 120, 41, 32, 61, 32, 120, 59]).2 = (0, 0, 0) by rw [run_c]]
  obtain ⟨G1, p1, q1, bd, od, q2, G2, q3, rfl, hty, hbl, hq2⟩ := wake_mod hz3
  have hs3 := hb3.size
  obtain ⟨W3, hW3⟩ : ∃ W3, (w3.alloc (.cells #[.slice G1 p1 q1, .slice (some ⟨bd, od, none⟩) 1 q2] 40)).alloc (.cells #[.int .i64 0, .int .i64 0, .int .i64 0, .int .i64 0] 55) = W3 := ⟨_, rfl⟩
  have hbw3 : Below w3.heap.size w3 W3 := by rw [← hW3]; exact new2 _ _ _
  obtain ⟨_, _, hn3, hd3⟩ := after2 (G := fun _ => False) (Turn.refl _ ((w3.alloc (.cells #[.slice G1 p1 q1, .slice (some ⟨bd, od, none⟩) 1 q2] 40)).alloc (.cells #[.int .i64 0, .int .i64 0, .int .i64 0, .int .i64 0] 55)))
  rw [hW3] at hn3 hd3
  have hsW3 : W3.heap.size = w3.heap.size + 2 := by rw [← hW3]; simp
  have hb23 := hb3.trans (hbw3.mono hs3)
  have HN3 := hid (hn3 id)
  have HD3 := hid (hd3 id)
  have HTY := hid ((hbw3.cell (p := ⟨bd, od + 4, none⟩) hbl).trans hty)
  have HBW3 := hid (HBW2.out.trans (hb23.mono (by have := HBW2.out.size; omega)))
  have HB23 := hid hb23
  have HXW3 := hid (HXW2.out.below hb23)
  have HW3 := hid hW3
  have HQ := hid (tmod_any W3 [102, 110, 32, 102, 40, 120, 41, 32, 61, 32, 59] HXW3.out)
  clear hb3 hz3 hbw3 hn3 hd3 hW3 hb23 hty
  go_wp2_with fail
  rw [HW3.out]
  refine (HQ.out).mono ?_
  rintro e w4 ⟨hb4, z4, rfl, hz4⟩
  rw [show (wholeP moduleP [102, 110, 32, 102, 40, 120, 41, 32, 61, 32, 59]).2 = (1, 11, 7) by rw [run_d]]
  have hzc := hz4
  obtain ⟨vi, xi, vd, xd, rfl, ⟨K1, r1, r2, rfl, _⟩, _, ⟨K2, r3, r4, rfl, _⟩, _⟩ := hzc
  have hs4 := hb4.size
  obtain ⟨W4, hW4⟩ : ∃ W4, (w4.alloc (.cells #[.slice K1 r1 r2, .slice K2 r3 r4] 40)).alloc (.cells #[.int .i64 0, .int .i64 1, .int .i64 11, .int .i64 7] 55) = W4 := ⟨_, rfl⟩
  have hbw4 : Below w4.heap.size w4 W4 := by rw [← hW4]; exact new2 _ _ _
  obtain ⟨_, _, _, hd4⟩ := after2 (G := fun _ => False) (Turn.refl _ ((w4.alloc (.cells #[.slice K1 r1 r2, .slice K2 r3 r4] 40)).alloc (.cells #[.int .i64 0, .int .i64 1, .int .i64 11, .int .i64 7] 55)))
  rw [hW4] at hd4
  have hsW4 : W4.heap.size = w4.heap.size + 2 := by rw [← hW4]; simp
  have hb34 := hb4.trans (hbw4.mono hs4)
  have HBW4 := hid (HBW3.out.trans (hb34.mono (by have := HBW3.out.size; omega)))
  have hb14 : Below W1.heap.size W1 W4 := (HB12.out.trans (HB23.out.mono HB12.out.size)).trans (hb34.mono (by have := HB12.out.size; have := HB23.out.size; omega))
  have hb24 : Below W2.heap.size W2 W4 := HB23.out.trans (hb34.mono HB23.out.size)
  have HD4 := hid (hd4 id)
  have HN1' := hid ((hb14.block w1.heap.size (by omega)).trans HN1.out)
  have HD1' := hid ((hb14.block (w1.heap.size + 1) (by omega)).trans HD1.out)
  have HN2' := hid ((hb24.block w2.heap.size (by omega)).trans HN2.out)
  have HD2' := hid ((hb24.block (w2.heap.size + 1) (by omega)).trans HD2.out)
  have HN3' := hid ((hb34.block w3.heap.size (by omega)).trans HN3.out)
  have HD3' := hid ((hb34.block (w3.heap.size + 1) (by omega)).trans HD3.out)
  have HTY' := hid ((hb34.cell (p := ⟨bd, od + 4, none⟩) (by show bd < _; omega)).trans HTY.out)
  have hz14 := HZW1.out.turn (Turn.of_below (F := fun _ => False) hb14) (fun _ _ _ => id)
  have HE := hid (texprs_any W4 _ exA sm_a hz14.all (by unfold exA; simp [okN, okNs, okTs, In64, maxLen]) (by decide) (HXW3.out.below hb34).t)
  rw [show_a] at HE
  have HW4 := hid hW4
  have HE := hid (by have h := HE; rw [← hW4] at h; exact h)
  have hb14' : Below W1.heap.size W1 w4 := (HB12.out.trans (HB23.out.mono HB12.out.size)).trans (hb4.mono (by have := HB12.out.size; have := HB23.out.size; omega))
  obtain ⟨x0, x1, x2, x3, x4, x5, x6, x7, xz⟩ := cells8 ((hb14'.block w1.heap.size (by omega)).trans HN1.out)
  obtain ⟨a0, a1, a2, a3, az⟩ := cells4 ((hb14'.block (w1.heap.size + 1) (by omega)).trans HD1.out)
  have hll1 : w1.heap.size < w4.heap.size := by have := hb14'.size; omega
  have hll2 : w1.heap.size + 1 < w4.heap.size := by have := hb14'.size; omega
  clear hb14'
  have HS4 := hid hsW4
  clear hb4 hz4 hbw4 hd4 hW4 hb34 hb14 hb24 hz14
  go_wp2_with fail
  refine (HE.out).mono ?_
  rintro e w5 ⟨rfl, hb5⟩
  rw [HW4.out] at hb5
  have HB5 := hid (HBW4.out.trans (hb5.mono (by have := HBW4.out.size; omega)))
  have hs5 := hb5.size
  clear x0 x1 x2 x3 x4 x5 x6 x7 xz a0 a1 a2 a3 az
  have HN1' := hid ((hb5.block w1.heap.size (by omega)).trans HN1'.out)
  have HD2' := hid ((hb5.block (w2.heap.size + 1) (by omega)).trans HD2'.out)
  have HN2' := hid ((hb5.block w2.heap.size (by omega)).trans HN2'.out)
  have HN3' := hid ((hb5.block w3.heap.size (by omega)).trans HN3'.out)
  have HD3' := hid ((hb5.block (w3.heap.size + 1) (by omega)).trans HD3'.out)
  have HD4' := hid ((hb5.block (w4.heap.size + 1) (by omega)).trans HD4.out)
  have hty := (hb5.cell (p := ⟨bd, od + 4, none⟩) (by show bd < _; omega)).trans HTY'.out
  obtain ⟨x0, x1, x2, x3, x4, x5, x6, x7, xz⟩ := cells8 HN1'.out
  obtain ⟨b0, b1, b2, b3, bz⟩ := cells4 HD2'.out
  obtain ⟨y0, y1, y2, y3, yz⟩ := cells4 HN2'.out
  obtain ⟨m0, m1', mz⟩ := cells2 HN3'.out
  obtain ⟨d0, d1, d2, d3, dz⟩ := cells4 HD3'.out
  obtain ⟨f0, f1, f2, f3, fz⟩ := cells4 HD4'.out
  clear hb5
  go_wp2_with fail
  go_ret
  exact ⟨rfl, HB5.out⟩
end Go.Proofs.YtmbppnbekkbibaaGreatDoor
end
section
/- The cells of a row of tokens (these lemmas stand in XP and XU as well, for the seats that were handed in before). -/
set_option linter.unusedVariables false
namespace Go.Proofs.YtmbppnbekkbibaaGreatDoor
open Go.RowKit

theorem tok_cells {w : World} {base n : Nat} {g c : Nat} {l : List TokD} (h : w.ownsRow base 70 4 (.slice (some ⟨g, 0, none⟩) n c) n (tokCells l)) {i : Nat} (hi : i < l.length) :
    w.cell? ⟨g, i * 4, none⟩ = some (.int .i64 l[i].kind) ∧ w.cell? ⟨g, i * 4 + 1, none⟩ = some (sv l[i].text) ∧ w.cell? ⟨g, i * 4 + 2, none⟩ = some (.int .i64 (l[i].line : Nat)) ∧ w.cell? ⟨g, i * 4 + 3, none⟩ = some (.int .i64 (l[i].col : Nat)) := by
  have hc := h.cells (g := g) rfl
  have key : ∀ (l : List TokD) (i : Nat) (hi : i < l.length), (tokCells l)[i * 4]? = some (.int .i64 l[i].kind) ∧ (tokCells l)[i * 4 + 1]? = some (sv l[i].text) ∧ (tokCells l)[i * 4 + 2]? = some (.int .i64 (l[i].line : Nat)) ∧ (tokCells l)[i * 4 + 3]? = some (.int .i64 (l[i].col : Nat)) := by
    intro l
    induction l with
    | nil => intro i hi; simp at hi
    | cons t l ih =>
      intro i hi
      have e : tokCells (t :: l) = tokV t ++ tokCells l := rfl
      have hl : (tokV t).length = 4 := rfl
      rw [e]
      rcases i with _ | i
      · exact ⟨rfl, rfl, rfl, rfl⟩
      · obtain ⟨a, b, c, d⟩ := ih i (by simpa using hi)
        rw [show (i + 1) * 4 = i * 4 + 4 from by omega]
        refine ⟨?_, ?_, ?_, ?_⟩
        · rw [List.getElem?_append_right (by omega), hl]; simpa using a
        · rw [List.getElem?_append_right (by omega), hl, show i * 4 + 4 + 1 - 4 = i * 4 + 1 from by omega]; simpa using b
        · rw [List.getElem?_append_right (by omega), hl, show i * 4 + 4 + 2 - 4 = i * 4 + 2 from by omega]; simpa using c
        · rw [List.getElem?_append_right (by omega), hl, show i * 4 + 4 + 3 - 4 = i * 4 + 3 from by omega]; simpa using d
  obtain ⟨a, b, c', d⟩ := key l i hi
  have h1 := hc _ _ a
  have h2 := hc _ _ b
  have h3 := hc _ _ c'
  have h4 := hc _ _ d
  rw [plain_add, Nat.zero_add] at h1 h2 h3 h4
  exact ⟨h1, h2, h3, h4⟩
end Go.Proofs.YtmbppnbekkbibaaGreatDoor
end
section
/- The law ParseFaults walked. -/
set_option linter.unusedVariables false
namespace Go.Proofs.YtmbppnbekkbibaaGreatDoor
open Go.RowKit

set_option maxRecDepth 100000 in
theorem diag_same (d : DgD) (w : World) : (binOp .eql 55 (dgV d) (dgV d)).run Tryz.prog w = .ok (.bool true) w := by
  have hS : Tryz.prog.underlying 55 = some (.struct (Tryz.prog.fieldsOf 55)) := by kernel_rfl
  have hp : Tryz.prog.stoodInHeld 55 = false := by kernel_rfl
  have u3 := Tryz.underlying3
  have a3 := Tryz.isAgg3
  have z3 := Tryz.sizeOf3
  have u5 := Tryz.underlying53
  have a5 := Tryz.isAgg53
  have z5 := Tryz.sizeOf53
  rw [run_eql_struct, show (10000 : Nat) = 9999 + 1 from rfl, run_equalIn_agg w 9999 55 _ _ hS hp]
  simp only [Program.fieldsOf, Tryz.underlying55]
  go_simp
theorem tok_faults {s : Bt} {D : DgD} (h : (wholeP moduleP s).2 = D) (h0 : (lexL s).2.2.2 = 0) (h1 : D.2.2 ≠ 0) : (∃ t ∈ (lexL s).1, D.1 = t.line ∧ D.2.1 = t.col) ∧ (D.2.2 = 6 ∨ D.2.2 = 7) := by
  rcases hq : wholeP moduleP s with ⟨o, d⟩
  rw [hq] at h
  simp only at h
  subst h
  cases o with
  | some x =>
    exfalso
    have hz := lexL_ok h0
    obtain ⟨T, hT⟩ : ∃ T, lexL s = (T, ((0, 0, 0) : Nat × Nat × Int)) := ⟨(lexL s).1, by rw [← hz]⟩
    rw [wholeP_ok hT] at hq
    rcases hr : thenP moduleP (fun x => thenP (kindP 0) fun _ => retP x) T with g | ⟨y, r⟩
    · rw [hr] at hq; cases hq
    · rw [hr] at hq
      injection hq with _ hq
      rw [← hq] at h1
      exact h1 rfl
  | none =>
    rcases faults_law Sf.module hq with ⟨hne, _⟩ | ⟨_, h2, h3⟩
    · exact absurd h0 hne
    · exact ⟨h2, h3⟩
theorem lex_fault {s : Bt} (h0 : (lexL s).2.2.2 ≠ 0) : (wholeP moduleP s).2 = (lexL s).2 := by unfold wholeP; rw [if_neg h0]
set_option maxRecDepth 100000 in
set_option maxHeartbeats 8000000 in
theorem parsefaults_any (a : ByteArray) (w : World) (ha : a.size ≤ 281474976710656) (hX : LaidX w) : Calls Tryz.prog 10 #[.string a] w fun e w' => e = .returned (.bool true) ∧ Below w.heap.size w w' := by
  obtain ⟨s, hs0, hsl⟩ : ∃ s : Bt, Value.string a = sv s ∧ s.length ≤ 281474976710656 := ⟨a.data.toList, by show Value.string a = Value.string ⟨a.data.toList.toArray⟩; simp, by
    have e : a.data.toList.length = a.size := Array.length_toList
    omega⟩
  rw [hs0]
  clear hs0 ha
  have hsz := sv_size s
  have HX := hid hX
  clear hX
  go_enter Tryz.func10, Tryz.ntmps10
  go_wp2_with fail
  refine (pawake_any w HX.out).mono ?_
  rintro e w1 ⟨rfl, hb1⟩
  by_cases h5 : (5000 : Int) < s.length
  · go_wp2_with fail
    go_ret
    exact ⟨rfl, hb1⟩
  have hX1 := HX.out.below hb1
  go_wp2_with fail
  refine (lex_any w1 s hX1).mono ?_
  rintro e w2 ⟨v, n, rfl, hown, hb2⟩
  obtain ⟨A1, c1, rfl, hnc, hcm⟩ := own_sh hown
  obtain ⟨L, hL⟩ : ∃ L, lexL s = L := ⟨_, rfl⟩
  obtain ⟨D, hD⟩ : ∃ D, (wholeP moduleP s).2 = D := ⟨_, rfl⟩
  rw [hL] at hown
  rw [hL]
  have HDV : diagV L.2 = .agg #[.int .i64 0, .int .i64 (L.2.1 : Nat), .int .i64 (L.2.2.1 : Nat), .int .i64 L.2.2.2] := rfl
  rw [HDV]
  obtain ⟨W2, hW2⟩ : ∃ W2, w2.alloc (.cells #[.int .i64 0, .int .i64 (L.2.1 : Nat), .int .i64 (L.2.2.1 : Nat), .int .i64 L.2.2.2] 55) = W2 := ⟨_, rfl⟩
  have hd2 := at1 w2 (.cells #[.int .i64 0, .int .i64 (L.2.1 : Nat), .int .i64 (L.2.2.1 : Nat), .int .i64 L.2.2.2] 55)
  rw [hW2] at hd2
  have hbw : Below w2.heap.size w2 W2 := by rw [← hW2]; exact new1 _ _
  have hsW : W2.heap.size = w2.heap.size + 1 := by rw [← hW2]; simp
  have HB2 := hid (hb1.trans ((hb2.trans (hbw.mono hb2.size)).mono hb1.size))
  have HROW := hid (own_below hown hbw)
  have HD2 := hid hd2
  have hP := tmod_any W2 s ((hX1.below hb2).below hbw)
  rw [hD] at hP
  have HP := hid hP
  have HL := hid hL
  have HDD := hid hD
  have HW2 := hid hW2
  have hs2 := hb2.size
  have hs1 := hb1.size
  clear hX1 hb1 hb2 hd2 hbw hP hL hD hW2 hown HDV
  go_wp2_with fail
  rw [HW2.out]
  refine (HP.out).mono ?_
  rintro e w3 ⟨hb3, z, rfl, hz⟩
  have hzc := hz
  obtain ⟨vi, xi, vd, xd, rfl, ⟨B1, m1, d1, rfl, _⟩, _, ⟨B2, m2, d2, rfl, _⟩, _⟩ := hzc
  have hs3 := hb3.size
  obtain ⟨W3, hW3⟩ : ∃ W3, (w3.alloc (.cells #[.slice B1 m1 d1, .slice B2 m2 d2] 40)).alloc (.cells #[.int .i64 0, .int .i64 (D.1 : Nat), .int .i64 (D.2.1 : Nat), .int .i64 D.2.2] 55) = W3 := ⟨_, rfl⟩
  have hbw3 : Below w3.heap.size w3 W3 := by rw [← hW3]; exact new2 _ _ _
  obtain ⟨_, _, _, hd3⟩ := after2 (G := fun _ => False) (Turn.refl _ ((w3.alloc (.cells #[.slice B1 m1 d1, .slice B2 m2 d2] 40)).alloc (.cells #[.int .i64 0, .int .i64 (D.1 : Nat), .int .i64 (D.2.1 : Nat), .int .i64 D.2.2] 55)))
  rw [hW3] at hd3
  have hb23 := hb3.trans (hbw3.mono hs3)
  have HB3 := hid (HB2.out.trans (hb23.mono (by have := HB2.out.size; omega)))
  have HROW3 := hid (own_below HROW.out hb23)
  have HD3 := hid (hd3 id)
  have HDL := hid ((hb23.block w2.heap.size (by omega)).trans HD2.out)
  have HW3 := hid hW3
  obtain ⟨l0, l1, l2, l3, lz⟩ := cells4 ((hb3.block w2.heap.size (by omega)).trans HD2.out)
  have hll : w2.heap.size < w3.heap.size := by omega
  have hsW3 : W3.heap.size = w3.heap.size + 2 := by rw [← hW3]; simp
  clear hb3 hz hbw3 hd3 hb23 hW3
  by_cases h0 : L.2.2.2 = 0
  · have hl0 : (L.2.2.2 != 0) = false := by simp [h0]
    have hl1 : (L.2.2.2 == 0) = true := by simp [h0]
    by_cases h1 : D.2.2 = 0
    · have hd0 : (D.2.2 == 0) = true := by simp [h1]
      clear h0 h1
      go_wp2_with fail
      go_ret
      exact ⟨rfl, by rw [HW3.out]; exact HB3.out⟩
    · have hd0 : (D.2.2 == 0) = false := by simp [h1]
      have hf := tok_faults HDD.out (by rw [HL.out]; exact h0) h1
      rw [HL.out] at hf
      obtain ⟨⟨t, ht, htl, htc⟩, hd67⟩ := hf
      obtain ⟨T, hT⟩ : ∃ T, L.1 = T := ⟨_, rfl⟩
      rw [hT] at ht
      have hrow := HROW3.out
      rw [hT] at hrow
      have hn : n = T.length := by have := hrow.1; rw [tokCells_length] at this; omega
      subst hn
      obtain ⟨i0, hi0, hti⟩ := List.getElem_of_mem ht
      obtain ⟨g1, c2, hv, _, hgl, _, hcm2⟩ := own_form hrow (by omega)
      injection hv with hv1 _ hv3
      subst hv1 hv3
      unfold maxLen at hcm2
      have HRW := hid hrow
      have HDE := hid hd67
      have hi : T[i0].line = D.1 ∧ T[i0].col = D.2.1 := by rw [hti]; exact ⟨htl.symm, htc.symm⟩
      have HI := hid hi
      clear h0 h1 hT hrow ht htl htc hti hd67 hi
      go_wp2_with fail
      go_loopw [8] (fun v8 wr => ∃ k : Nat, v8 = .int .i64 k ∧ k ≤ i0 ∧ Below W3.heap.size W3 wr) (fun v8 _ => T.length - (intOf v8).toNat)
      case atStart => exact ⟨0, rfl, by omega, by rw [HW3.out]; exact Below.refl _ _⟩
      case round =>
        obtain ⟨k, rfl, hk, hbr⟩ := hrel
        have hlt : k < T.length := by omega
        have hltI : (k : Int) < T.length := by omega
        obtain ⟨t0, t1, t2, t3⟩ := tok_cells (own_below HRW.out hbr) hlt
        have hdb := (hbr.block (w3.heap.size + 1) (by omega)).trans HD3.out
        obtain ⟨f0, f1, f2, f3, fz⟩ := cells4 hdb
        have HKI : Hid (k = i0 → T[k].line = D.1 ∧ T[k].col = D.2.1) := hid (fun e => by subst e; exact HI.out)
        obtain ⟨tk, htk⟩ : ∃ tk, T[k] = tk := ⟨_, rfl⟩
        rw [htk] at t0 t1 t2 t3 HKI
        obtain ⟨kd, tx, ln, cl⟩ := tk
        simp only at t0 t1 t2 t3 HKI
        have hS0 : wr.drew.cell? ⟨g1, k * 4 + 2, none⟩ = some (.int .i64 (ln : Nat)) ∧ wr.drew.cell? ⟨g1, k * 4 + 3, none⟩ = some (.int .i64 (cl : Nat)) ∧ wr.drew.cell? ⟨w3.heap.size + 1, 1, none⟩ = some (.int .i64 (D.1 : Nat)) ∧ wr.drew.cell? ⟨w3.heap.size + 1, 2, none⟩ = some (.int .i64 (D.2.1 : Nat)) := ⟨t2, t3, f1, f2⟩
        have hbd := hbr.trans ((below_drawn wr 1).mono hbr.size)
        have HB9 := hid (HB3.out.trans (hbr.mono (by have := HB3.out.size; omega)))
        have HD9 := hid hdb
        by_cases ha : ln = D.1
        · have hA : (((ln : Nat) : Int) == ((D.1 : Nat) : Int)) = true := by simp [ha]
          by_cases hb : cl = D.2.1
          · have hB : (((cl : Nat) : Int) == ((D.2.1 : Nat) : Int)) = true := by simp [hb]
            clear ha hb t0 t1 t2 t3
            rcases HDE.out with h6 | h6
            · skip
              have h7 : (D.2.2 == 7) = false := by simp [h6]
              have h8 : (D.2.2 == 6) = true := by simp [h6]
              clear h6
              go_wp2_with fail
              refine wp_region_held_drew (S := fun w' => w'.cell? ⟨g1, k * 4 + 2, none⟩ = some (.int .i64 (ln : Nat)) ∧ w'.cell? ⟨g1, k * 4 + 3, none⟩ = some (.int .i64 (cl : Nat)) ∧ w'.cell? ⟨w3.heap.size + 1, 1, none⟩ = some (.int .i64 (D.1 : Nat)) ∧ w'.cell? ⟨w3.heap.size + 1, 2, none⟩ = some (.int .i64 (D.2.1 : Nat))) (by kernel_rfl) hS0 (fun _ => ?_)
              try simp only [Act.put, List.getElem_toArray, List.getElem_cons_zero, List.getElem_cons_succ, List.setIfInBounds_toArray, List.set_cons_zero, List.set_cons_succ]
              refine tk 0 (.slice (some ⟨g1, 0, none⟩) T.length c1) hS0 ?_
              refine tk 1 (.int .i64 (k : Nat)) hS0 ?_
              refine tk 2 (.pointer (some ⟨g1, k * 4, none⟩)) hS0 ?_
              refine tk 3 (.pointer (some ⟨g1, k * 4 + 2, none⟩)) hS0 ?_
              refine tkf 4 (.int .i64 (ln : Nat)) (fun _ h => h.1) hS0 ?_
              refine tk 5 (.pointer (some ⟨w3.heap.size + 1, 1, none⟩)) hS0 ?_
              refine tkf 6 (.int .i64 (D.1 : Nat)) (fun _ h => h.2.2.1) hS0 ?_
              refine tk 7 (.bool true) hS0 ?_
              refine tk 8 (.bool true) hS0 ?_
              refine tk 9 (.slice (some ⟨g1, 0, none⟩) T.length c1) hS0 ?_
              refine tk 10 (.int .i64 (k : Nat)) hS0 ?_
              refine tk 11 (.pointer (some ⟨g1, k * 4, none⟩)) hS0 ?_
              refine tk 12 (.pointer (some ⟨g1, k * 4 + 3, none⟩)) hS0 ?_
              refine tkf 13 (.int .i64 (cl : Nat)) (fun _ h => h.2.1) hS0 ?_
              refine tk 14 (.pointer (some ⟨w3.heap.size + 1, 2, none⟩)) hS0 ?_
              refine tkf 15 (.int .i64 (D.2.1 : Nat)) (fun _ h => h.2.2.2) hS0 ?_
              refine tk 16 (.bool true) hS0 ?_
              refine tk 17 (.bool true) hS0 ?_
              refine wpAnyH_done (by kernel_rfl) ?_ _
              go_wp2_with fail
              go_ret
              exact ⟨rfl, HB9.out.trans ((below_drawn wr 1).mono (by have := HB9.out.size; omega))⟩
            · skip
              have h7 : (D.2.2 == 7) = true := by simp [h6]
              clear h6
              go_wp2_with fail
              refine wp_region_held_drew (S := fun w' => w'.cell? ⟨g1, k * 4 + 2, none⟩ = some (.int .i64 (ln : Nat)) ∧ w'.cell? ⟨g1, k * 4 + 3, none⟩ = some (.int .i64 (cl : Nat)) ∧ w'.cell? ⟨w3.heap.size + 1, 1, none⟩ = some (.int .i64 (D.1 : Nat)) ∧ w'.cell? ⟨w3.heap.size + 1, 2, none⟩ = some (.int .i64 (D.2.1 : Nat))) (by kernel_rfl) hS0 (fun _ => ?_)
              try simp only [Act.put, List.getElem_toArray, List.getElem_cons_zero, List.getElem_cons_succ, List.setIfInBounds_toArray, List.set_cons_zero, List.set_cons_succ]
              refine tk 0 (.slice (some ⟨g1, 0, none⟩) T.length c1) hS0 ?_
              refine tk 1 (.int .i64 (k : Nat)) hS0 ?_
              refine tk 2 (.pointer (some ⟨g1, k * 4, none⟩)) hS0 ?_
              refine tk 3 (.pointer (some ⟨g1, k * 4 + 2, none⟩)) hS0 ?_
              refine tkf 4 (.int .i64 (ln : Nat)) (fun _ h => h.1) hS0 ?_
              refine tk 5 (.pointer (some ⟨w3.heap.size + 1, 1, none⟩)) hS0 ?_
              refine tkf 6 (.int .i64 (D.1 : Nat)) (fun _ h => h.2.2.1) hS0 ?_
              refine tk 7 (.bool true) hS0 ?_
              refine tk 8 (.bool true) hS0 ?_
              refine tk 9 (.slice (some ⟨g1, 0, none⟩) T.length c1) hS0 ?_
              refine tk 10 (.int .i64 (k : Nat)) hS0 ?_
              refine tk 11 (.pointer (some ⟨g1, k * 4, none⟩)) hS0 ?_
              refine tk 12 (.pointer (some ⟨g1, k * 4 + 3, none⟩)) hS0 ?_
              refine tkf 13 (.int .i64 (cl : Nat)) (fun _ h => h.2.1) hS0 ?_
              refine tk 14 (.pointer (some ⟨w3.heap.size + 1, 2, none⟩)) hS0 ?_
              refine tkf 15 (.int .i64 (D.2.1 : Nat)) (fun _ h => h.2.2.2) hS0 ?_
              refine tk 16 (.bool true) hS0 ?_
              refine tk 17 (.bool true) hS0 ?_
              refine wpAnyH_done (by kernel_rfl) ?_ _
              go_wp2_with fail
              go_ret
              exact ⟨rfl, HB9.out.trans ((below_drawn wr 1).mono (by have := HB9.out.size; omega))⟩
          · have hB : (((cl : Nat) : Int) == ((D.2.1 : Nat) : Int)) = false := by simp; omega
            have hki : k < i0 := by
              rcases Nat.lt_or_ge k i0 with h | h
              · exact h
              · exact absurd (HKI.out (by omega)).2 hb
            clear ha hb t0 t1 t2 t3 f0 f1 f2 f3 fz hdb
            go_wp2_with fail
            refine wp_region_held_drew (S := fun w' => w'.cell? ⟨g1, k * 4 + 2, none⟩ = some (.int .i64 (ln : Nat)) ∧ w'.cell? ⟨g1, k * 4 + 3, none⟩ = some (.int .i64 (cl : Nat)) ∧ w'.cell? ⟨w3.heap.size + 1, 1, none⟩ = some (.int .i64 (D.1 : Nat)) ∧ w'.cell? ⟨w3.heap.size + 1, 2, none⟩ = some (.int .i64 (D.2.1 : Nat))) (by kernel_rfl) hS0 (fun _ => ?_)
            try simp only [Act.put, List.getElem_toArray, List.getElem_cons_zero, List.getElem_cons_succ, List.setIfInBounds_toArray, List.set_cons_zero, List.set_cons_succ]
            refine tk 0 (.slice (some ⟨g1, 0, none⟩) T.length c1) hS0 ?_
            refine tk 1 (.int .i64 (k : Nat)) hS0 ?_
            refine tk 2 (.pointer (some ⟨g1, k * 4, none⟩)) hS0 ?_
            refine tk 3 (.pointer (some ⟨g1, k * 4 + 2, none⟩)) hS0 ?_
            refine tkf 4 (.int .i64 (ln : Nat)) (fun _ h => h.1) hS0 ?_
            refine tk 5 (.pointer (some ⟨w3.heap.size + 1, 1, none⟩)) hS0 ?_
            refine tkf 6 (.int .i64 (D.1 : Nat)) (fun _ h => h.2.2.1) hS0 ?_
            refine tk 7 (.bool true) hS0 ?_
            refine tk 8 (.bool true) hS0 ?_
            refine tk 9 (.slice (some ⟨g1, 0, none⟩) T.length c1) hS0 ?_
            refine tk 10 (.int .i64 (k : Nat)) hS0 ?_
            refine tk 11 (.pointer (some ⟨g1, k * 4, none⟩)) hS0 ?_
            refine tk 12 (.pointer (some ⟨g1, k * 4 + 3, none⟩)) hS0 ?_
            refine tkf 13 (.int .i64 (cl : Nat)) (fun _ h => h.2.1) hS0 ?_
            refine tk 14 (.pointer (some ⟨w3.heap.size + 1, 2, none⟩)) hS0 ?_
            refine tkf 15 (.int .i64 (D.2.1 : Nat)) (fun _ h => h.2.2.2) hS0 ?_
            refine tk 16 (.bool false) hS0 ?_
            refine tk 17 (.bool false) hS0 ?_
            refine wpAnyH_done (by kernel_rfl) ?_ _
            go_wp2_with fail
            go_roundw
            case rel => exact ⟨k + 1, by go_num, by omega, hbd⟩
            case measure => simp [intOf]; omega
        · have hA : (((ln : Nat) : Int) == ((D.1 : Nat) : Int)) = false := by simp; omega
          have hki : k < i0 := by
            rcases Nat.lt_or_ge k i0 with h | h
            · exact h
            · exact absurd (HKI.out (by omega)).1 ha
          clear ha t0 t1 t2 t3 f0 f1 f2 f3 fz hdb
          go_wp2_with fail
          refine wp_region_held_drew (S := fun w' => w'.cell? ⟨g1, k * 4 + 2, none⟩ = some (.int .i64 (ln : Nat)) ∧ w'.cell? ⟨g1, k * 4 + 3, none⟩ = some (.int .i64 (cl : Nat)) ∧ w'.cell? ⟨w3.heap.size + 1, 1, none⟩ = some (.int .i64 (D.1 : Nat)) ∧ w'.cell? ⟨w3.heap.size + 1, 2, none⟩ = some (.int .i64 (D.2.1 : Nat))) (by kernel_rfl) hS0 (fun _ => ?_)
          try simp only [Act.put, List.getElem_toArray, List.getElem_cons_zero, List.getElem_cons_succ, List.setIfInBounds_toArray, List.set_cons_zero, List.set_cons_succ]
          refine tk 0 (.slice (some ⟨g1, 0, none⟩) T.length c1) hS0 ?_
          refine tk 1 (.int .i64 (k : Nat)) hS0 ?_
          refine tk 2 (.pointer (some ⟨g1, k * 4, none⟩)) hS0 ?_
          refine tk 3 (.pointer (some ⟨g1, k * 4 + 2, none⟩)) hS0 ?_
          refine tkf 4 (.int .i64 (ln : Nat)) (fun _ h => h.1) hS0 ?_
          refine tk 5 (.pointer (some ⟨w3.heap.size + 1, 1, none⟩)) hS0 ?_
          refine tkf 6 (.int .i64 (D.1 : Nat)) (fun _ h => h.2.2.1) hS0 ?_
          refine tk 7 (.bool false) hS0 ?_
          refine tk 8 (.bool false) hS0 ?_
          refine wpAnyH_take (i := 9) (v := undef) rfl (by kernel_rfl) (by kernel_rfl) (by kernel_rfl) (fun _ _ _ h => h) (Or.inr ⟨by kernel_rfl, rfl⟩) hS0 ?_
          try simp only [Act.put, List.getElem_toArray, List.getElem_cons_zero, List.getElem_cons_succ, List.setIfInBounds_toArray, List.set_cons_zero, List.set_cons_succ]
          refine wpAnyH_take (i := 10) (v := undef) rfl (by kernel_rfl) (by kernel_rfl) (by kernel_rfl) (fun _ _ _ h => h) (Or.inr ⟨by kernel_rfl, rfl⟩) hS0 ?_
          try simp only [Act.put, List.getElem_toArray, List.getElem_cons_zero, List.getElem_cons_succ, List.setIfInBounds_toArray, List.set_cons_zero, List.set_cons_succ]
          refine wpAnyH_take (i := 11) (v := undef) rfl (by kernel_rfl) (by kernel_rfl) (by kernel_rfl) (fun _ _ _ h => h) (Or.inr ⟨by kernel_rfl, rfl⟩) hS0 ?_
          try simp only [Act.put, List.getElem_toArray, List.getElem_cons_zero, List.getElem_cons_succ, List.setIfInBounds_toArray, List.set_cons_zero, List.set_cons_succ]
          refine wpAnyH_take (i := 12) (v := undef) rfl (by kernel_rfl) (by kernel_rfl) (by kernel_rfl) (fun _ _ _ h => h) (Or.inr ⟨by kernel_rfl, rfl⟩) hS0 ?_
          try simp only [Act.put, List.getElem_toArray, List.getElem_cons_zero, List.getElem_cons_succ, List.setIfInBounds_toArray, List.set_cons_zero, List.set_cons_succ]
          refine wpAnyH_take (i := 13) (v := undef) rfl (by kernel_rfl) (by kernel_rfl) (by kernel_rfl) (fun _ _ _ h => h) (Or.inr ⟨by kernel_rfl, rfl⟩) hS0 ?_
          try simp only [Act.put, List.getElem_toArray, List.getElem_cons_zero, List.getElem_cons_succ, List.setIfInBounds_toArray, List.set_cons_zero, List.set_cons_succ]
          refine wpAnyH_take (i := 14) (v := undef) rfl (by kernel_rfl) (by kernel_rfl) (by kernel_rfl) (fun _ _ _ h => h) (Or.inr ⟨by kernel_rfl, rfl⟩) hS0 ?_
          try simp only [Act.put, List.getElem_toArray, List.getElem_cons_zero, List.getElem_cons_succ, List.setIfInBounds_toArray, List.set_cons_zero, List.set_cons_succ]
          refine wpAnyH_take (i := 15) (v := undef) rfl (by kernel_rfl) (by kernel_rfl) (by kernel_rfl) (fun _ _ _ h => h) (Or.inr ⟨by kernel_rfl, rfl⟩) hS0 ?_
          try simp only [Act.put, List.getElem_toArray, List.getElem_cons_zero, List.getElem_cons_succ, List.setIfInBounds_toArray, List.set_cons_zero, List.set_cons_succ]
          refine wpAnyH_take (i := 16) (v := undef) rfl (by kernel_rfl) (by kernel_rfl) (by kernel_rfl) (fun _ _ _ h => h) (Or.inr ⟨by kernel_rfl, rfl⟩) hS0 ?_
          try simp only [Act.put, List.getElem_toArray, List.getElem_cons_zero, List.getElem_cons_succ, List.setIfInBounds_toArray, List.set_cons_zero, List.set_cons_succ]
          refine tk 17 (.bool false) hS0 ?_
          refine wpAnyH_done (by kernel_rfl) ?_ _
          go_wp2_with fail
          go_roundw
          case rel => exact ⟨k + 1, by go_num, by omega, hbd⟩
          case measure => simp [intOf]; omega
  · have hl0 : (L.2.2.2 != 0) = true := by simp [h0]
    have hl1 : (L.2.2.2 == 0) = false := by simp [h0]
    have hde : D = L.2 := by rw [← HDD.out, ← HL.out]; exact lex_fault (by rw [HL.out]; exact h0)
    subst hde
    have hsame := fun u : World => diag_same L.2 u
    clear h0
    go_wp2_with fail
    go_ret
    exact ⟨rfl, by rw [HW3.out]; exact HB3.out⟩
end Go.Proofs.YtmbppnbekkbibaaGreatDoor
end
section
/- What the rows' listed variables give the walks, and a world in which they read so. -/
set_option linter.unusedVariables false
namespace Go.Proofs.YtmbppnbekkbibaaGreatDoor
open Go.ChangeShapes Go.WideShapes Go.ChangeAt Go.RowKit

theorem own : ownKnob Tryz.prog.godebug = none := by kernel_rfl
theorem star_es : "*" ++ "errors.errorString" = "*errors.errorString" := by decide
theorem row_es (u : TypeId) (h : Tryz.prog.typeName? 3 u = some "*errors.errorString") : u = 298 :=
  typeName_ptr_named (nm := "errors.errorString") (by rw [star_es]; kernel_rfl) (by kernel_rfl) (by decide) u (by rw [star_es]; exact h)

theorem laidW_of {l : List (String × DataW Unit)} {W : World} (hp : (l.all fun x => x.2.handleName?.isNone) = true)
    (h1 : (l.filter fun x => x.1 == "internal/strconv.uint64pow10") = [("internal/strconv.uint64pow10", Lib.tabData .u64 Lib.pow10Tab)])
    (h2 : (l.filter fun x => x.1 == "strconv.ErrSyntax") = [("strconv.ErrSyntax", Rows.laid_strconv_ErrSyntax)])
    (h3 : (l.filter fun x => x.1 == "strconv.ErrRange") = [("strconv.ErrRange", Rows.laid_strconv_ErrRange)])
    (h : laidMetH Tryz.prog l W) : LaidW W := by
  have g1 := laidMetH.filter (fun x => x.1 == "internal/strconv.uint64pow10") h
  have g2 := laidMetH.filter (fun x => x.1 == "strconv.ErrSyntax") h
  have g3 := laidMetH.filter (fun x => x.1 == "strconv.ErrRange") h
  rw [h1] at g1
  rw [h2] at g2
  rw [h3] at g3
  rw [MakeChecks.laidMetH_plain _ _ _ (by kernel_rfl)] at g1
  rw [MakeChecks.laidMetH_plain _ _ _ (by kernel_rfl)] at g2
  rw [MakeChecks.laidMetH_plain _ _ _ (by kernel_rfl)] at g3
  obtain ⟨a2, _, e2, _⟩ := laid_sentinel g2 (g := 3) (by kernel_rfl) (by kernel_rfl) Tryz.underlying205 row_es Tryz.underlying298 Tryz.underlying300 rfl rfl Tryz.underlying9 (by kernel_rfl) (by kernel_rfl)
  obtain ⟨a3, _, e3, _⟩ := laid_sentinel g3 (g := 4) (by kernel_rfl) (by kernel_rfl) Tryz.underlying205 row_es Tryz.underlying298 Tryz.underlying300 rfl rfl Tryz.underlying9 (by kernel_rfl) (by kernel_rfl)
  refine ⟨?_, ⟨_, _, e2⟩, ⟨_, _, e3⟩⟩
  exact Lib.tabIs_of_head (g := 5) (by kernel_rfl) (by kernel_rfl) Tryz.underlying303 Tryz.underlying219 (by kernel_rfl) (by kernel_rfl) g1

theorem ascii_of {l : List (String × DataW Unit)} {W : World}
    (h1 : (l.filter fun x => x.1 == "strings.asciiSpace") = [("strings.asciiSpace", Lib.tabData .u8 Lib.asciiSpaceTab)])
    (h : laidMetH Tryz.prog l W) : Lib.TabIs Tryz.prog W "strings.asciiSpace" .u8 Lib.asciiSpaceTab := by
  have g1 := laidMetH.filter (fun x => x.1 == "strings.asciiSpace") h
  rw [h1] at g1
  rw [MakeChecks.laidMetH_plain _ _ _ (by kernel_rfl)] at g1
  exact Lib.tabIs_of_head (g := 0) (by kernel_rfl) (by kernel_rfl) Tryz.underlying217 Tryz.underlying5 (by kernel_rfl) (by kernel_rfl) g1
end Go.Proofs.YtmbppnbekkbibaaGreatDoor
end
