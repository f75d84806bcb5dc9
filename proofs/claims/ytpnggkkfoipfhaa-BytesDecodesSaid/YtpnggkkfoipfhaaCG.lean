/- Decode, by its contract. -/
import Derived.Test.YtpnggkkfoipfhaaCF
import Derived.Recover
set_option linter.unusedVariables false
namespace Go.Proofs.Ytpnggkkfoipfhaa
open Go.RowKit

set_option maxHeartbeats 4000000 in
theorem rdcode_any (w : World) (bk B : Nat) (l : Bt) (hR : RdAt w bk B l 0) :
    Calls Try.prog 30 #[.pointer (some ⟨bk, 0, none⟩)] w fun e w' => ReadsTo RCode bk B 0 w (wholeO l) e w' := by
  rcases hq : numD l with _ | ⟨N, r⟩
  · have hw := wholeO_none (l := l) (by simp only [codeD, mapD, andD, mergeD, hq])
    have HW := hid hw
    have HQ := hid hq
    have S0 := hid (StAt.start (T := 28) #[(.slice none 0 0), (.slice none 0 0), (.slice none 0 0), (.slice none 0 0), (.slice none 0 0), (.int .i64 0), (.bool false)] hR)
    have CM := hid (rdnum_any _ bk B l 0 S0.out.rd)
    clear hR hw hq
    go_enter Try.func30, Try.ntmps30
    go_wp2_with fail
    refine CM.out.mono ?_
    rintro e wm h2
    obtain ⟨rfl, t2⟩ := h2.none_ HQ.out
    clear h2 CM
    go_wp2_with fail
    exact ⟨rfl, ReadsTo.fail HW.out (turn_same S0.out.turn t2)⟩
  · by_cases h0 : N = 0
    · subst h0; exact rdcode_0 w bk B l hR r hq
    · by_cases h1 : N = 1
      · subst h1; exact rdcode_1 w bk B l hR r hq
      · have hw := wholeO_none (l := l) (by
          have : mergeD l = none := by unfold mergeD; rw [hq]; simp only; rw [if_neg (fun h => h.elim h0 h1)]
          simp only [codeD, mapD, andD, this])
        have HW := hid hw
        have HQ := hid hq
        have S0 := hid (StAt.start (T := 28) #[(.slice none 0 0), (.slice none 0 0), (.slice none 0 0), (.slice none 0 0), (.slice none 0 0), (.int .i64 0), (.bool false)] hR)
        have CM := hid (rdnum_any _ bk B l 0 S0.out.rd)
        have hb0 : (N == 0) = false := beq_eq_false_iff_ne.mpr h0
        have hb1 : (N == 1) = false := beq_eq_false_iff_ne.mpr h1
        have hd0 : decide (N = 0) = false := decide_eq_false h0
        have hd1 : decide (N = 1) = false := decide_eq_false h1
        clear hR hw hq
        go_enter Try.func30, Try.ntmps30
        go_wp2_with fail
        refine CM.out.mono ?_
        rintro e wm h2
        obtain ⟨vm, rfl, t2, hv, hr2⟩ := h2.some_ HQ.out
        obtain rfl := hv _ (Turn.refl _ _)
        clear h2 CM hv hr2
        go_wp2_with fail
        refine (must_not _ ?hb _).mono ?_
        case hb => first | rfl | assumption | (simp; omega)
        rintro e w1 ⟨rfl, rfl⟩
        go_wp2_with fail
        exact ⟨rfl, ReadsTo.fail HW.out (turn_same S0.out.turn t2)⟩

/-- The end of Decode, as cells of the two results. -/
theorem catch_idle (p q : Addr) (w : World) :
    CallsD Try.prog 29 #[.pointer (some p), .pointer (some q)] .returning w fun e u' w' => e = .returned (.tuple #[]) ∧ u' = .returning ∧ w' = w := by
  refine callsD_of_wpS Try.func29 rfl fun c₀ cs hu => ?_
  apply wpS_seq
  apply wpS_region
  simp [wpOpsS, go_sem, recoverD, hu, Try.ntmps29, Exit.thenS]
  refine wpS_of_wp ?_
  change Code.wp _ _ _ { tmps := #[.pointer (some p), .pointer (some q), .nilIface, undef, undef, .nilIface, undef, undef, undef, undef, undef, undef, undef, undef, undef, undef, undef], defers := [] } w
  go_wp2
  exact ⟨rfl, .returning, by rw [← hu], .tuple #[], results_none rfl _ _ _, rfl, rfl, rfl⟩
set_option maxRecDepth 100000 in
set_option maxHeartbeats 2000000 in
theorem catch_broken (pb qb : Nat) (hne : pb ≠ qb) (older : List PanicEntry) (w : World) (hp : w.heap[pb]? = some (.cells #[.slice none 0 0, .slice none 0 0, .slice none 0 0, .slice none 0 0, .slice none 0 0, .int .i64 0, .bool false] 28 (0, 0))) (hq : w.heap[qb]? = some (.cells #[.int .i64 0] 34 (0, 0))) :
    CallsD Try.prog 29 #[.pointer (some ⟨pb, 0, none⟩), .pointer (some ⟨qb, 0, none⟩)] (.panicking ({ v := .iface 66 (.agg #[]), recovered := false } :: older)) w fun e u' w' => e = .returned (.tuple #[]) ∧ u' = .panicking ({ v := .iface 66 (.agg #[]), recovered := true } :: older) ∧
      Turn (fun k => k = pb ∨ k = qb) w w' ∧ w'.heap[pb]? = some (.cells #[.slice none 0 0, .slice none 0 0, .slice none 0 0, .slice none 0 0, .slice none 0 0, .int .i64 0, .bool false] 28 (0, 0)) ∧ w'.heap[qb]? = some (.cells #[.int .i64 20] 34 (0, 0)) := by
  have hta : ∀ w : World, (Instr.typeAssert (.iface 66 (.agg #[])) 20 66 true).run Try.prog w = .ok (.tuple #[.agg #[], .bool true]) w := fun _ => rfl
  have hpl := block_lt hp
  have hql := block_lt hq
  have cp := cell_of_row w pb
  have c0 : w.cell? ⟨pb, 0, none⟩ = some (.slice none 0 0) := (cell_of_row w pb 0 _ _ _ hp).trans rfl
  have c1 : w.cell? ⟨pb, 1, none⟩ = some (.slice none 0 0) := (cell_of_row w pb 1 _ _ _ hp).trans rfl
  have c2 : w.cell? ⟨pb, 2, none⟩ = some (.slice none 0 0) := (cell_of_row w pb 2 _ _ _ hp).trans rfl
  have c3 : w.cell? ⟨pb, 3, none⟩ = some (.slice none 0 0) := (cell_of_row w pb 3 _ _ _ hp).trans rfl
  have c4 : w.cell? ⟨pb, 4, none⟩ = some (.slice none 0 0) := (cell_of_row w pb 4 _ _ _ hp).trans rfl
  have c5 : w.cell? ⟨pb, 5, none⟩ = some (.int .i64 0) := (cell_of_row w pb 5 _ _ _ hp).trans rfl
  have c6 : w.cell? ⟨pb, 6, none⟩ = some (.bool false) := (cell_of_row w pb 6 _ _ _ hp).trans rfl
  have e0 : w.cell? ⟨qb, 0, none⟩ = some (.int .i64 0) := (cell_of_row w qb 0 _ _ _ hq).trans rfl
  have z0 := block_free hp
  have y0 := block_free hq
  have HP := hid hp
  have HQ := hid hq
  clear hp hq cp
  refine callsD_of_wpS Try.func29 rfl fun c₀ cs hu => ?_
  apply wpS_seq
  apply wpS_region
  simp [wpOpsS, go_sem, recoverD, hu, Try.ntmps29, Exit.thenS]
  refine wpS_of_wp ?_
  change Code.wp _ _ _ { tmps := #[.pointer (some ⟨pb, 0, none⟩), .pointer (some ⟨qb, 0, none⟩), .iface 66 (.agg #[]), undef, undef, .iface 66 (.agg #[]), undef, undef, undef, undef, undef, undef, undef, undef, undef, undef, undef], defers := [] } w
  go_wp2_with fail
  have ec := heap_setCell_same _ _ 6 _ _ (.bool false) (heap_setCell_same _ _ 5 _ _ (.int .i64 0) (heap_setCell_same _ _ 4 _ _ (.slice none 0 0) (heap_setCell_same _ _ 3 _ _ (.slice none 0 0) (heap_setCell_same _ _ 2 _ _ (.slice none 0 0) (heap_setCell_same _ _ 1 _ _ (.slice none 0 0) (heap_setCell_same _ _ 0 _ _ (.slice none 0 0) (HP.out)))))))
  have tc := ((turn_set w pb 0 (.slice none 0 0)).trans ((turn_set _ pb 1 (.slice none 0 0)).trans ((turn_set _ pb 2 (.slice none 0 0)).trans ((turn_set _ pb 3 (.slice none 0 0)).trans ((turn_set _ pb 4 (.slice none 0 0)).trans ((turn_set _ pb 5 (.int .i64 0)).trans (turn_set _ pb 6 (.bool false)) (fun _ _ h => h)) (fun _ _ h => h)) (fun _ _ h => h)) (fun _ _ h => h)) (fun _ _ h => h)) (fun _ _ h => h))
  have eq := block_turn HQ.out tc (fun e => hne e.symm)
  have eq2 := heap_setCell_same _ _ 0 _ _ (.int .i64 20) eq
  refine ⟨rfl, _, rfl, .tuple #[], results_none rfl _ _ _, rfl, rfl, ?_, ?_, ?_⟩
  · exact ((tc.mono (fun _ _ h => .inl h)).trans (turn_set _ qb 0 (.int .i64 20)) (fun _ _ h => .inr h)).trans (Turn.alloc (fun _ => False) _ _) (fun _ _ h => h.elim)
  · exact block_turn (block_turn ec (turn_set _ qb 0 (.int .i64 20)) hne) (Turn.alloc (fun _ => False) _ _) id
  · exact block_turn eq2 (Turn.alloc (fun _ => False) _ _) id

/-- What Decode answers: a code and an error's number. -/
def noCode : CodeD := ⟨[], [], [], [], [], 0, false⟩
def decC (l : Bt) : CodeD := if 1048576 < l.length then noCode else (wholeD l).getD noCode
def decE (l : Bt) : Int := if 1048576 < l.length then 2 else if (wholeD l).isSome then 0 else 20
theorem noCode_reads (w : World) (B : Nat) : CodeR w B [.slice none 0 0, .slice none 0 0, .slice none 0 0, .slice none 0 0, .slice none 0 0, .int .i64 0, .bool false] noCode :=
  ⟨_, _, _, _, _, [], [], [], rfl, Sl.nil _ _ _, Sl.nil _ _ _, Sl.nil _ _ _, ⟨rfl, fun i hi => absurd hi (by simp [noCode])⟩, Sl.nil _ _ _, .nil, Sl.nil _ _ _, ⟨rfl, fun i hi => absurd hi (by simp [noCode])⟩⟩
theorem results_cells2 {P : Program} {fn : Func} {t u : Tmp} {T U : TypeId} {tmps : Array Value} {w : World} {b b' : Nat} {cs : Array Value} {x : Value} {S S' : TypeId} {d d' : TypeDesc} (h : fn.results = #[.cell t T, .cell u U]) (ht : tmps.getD t undef = .pointer (some ⟨b, 0, none⟩)) (hu' : tmps.getD u undef = .pointer (some ⟨b', 0, none⟩)) (hb : w.heap[b]? = some (.cells cs S (0, 0))) (hb' : w.heap[b']? = some (.cells #[x] S' (0, 0)))
    (hu : P.underlying T = some d) (hd : (match d with | .struct _ | .array _ _ => true | _ => false) = true) (hi : (P.info? T).map (·.size) = some cs.size)
    (hU : P.underlying U = some d') (hd' : ∀ w, (isAgg U).run P w = .ok false w) : (results fn tmps).run P w = .ok (.tuple #[.agg cs, x]) w := by
  have h1 := run_loadVar_row (P := P) w b S T cs (0, 0) d hb hu hd hi
  have e : tmps[t]?.getD undef = .pointer (some ⟨b, 0, none⟩) := by simpa using ht
  have e' : tmps[u]?.getD undef = .pointer (some ⟨b', 0, none⟩) := by simpa using hu'
  have h2 : (asAddr (.pointer (some ⟨b, 0, none⟩))).run P w = .ok ⟨b, 0, none⟩ w := rfl
  have h2' : (asAddr (.pointer (some ⟨b', 0, none⟩))).run P w = .ok ⟨b', 0, none⟩ w := rfl
  have h3 : (loadVar U ⟨b', 0, none⟩).run P w = .ok x w := by
    have hc : w.cell? ⟨b', 0, none⟩ = some x := (cell_of_row w b' 0 _ _ _ hb').trans rfl
    simp [loadVar, hd', hc, go_sem]
  simp [results, h, e, e', h1, h2, h2', h3]
set_option maxRecDepth 100000 in
set_option maxHeartbeats 4000000 in
theorem decode_any (v : Value) (l : Bt) (w : World) (hv : Bs w w.heap.size v l) :
    Calls Try.prog 12 #[v] w fun e w' => Below w.heap.size w w' ∧ ∃ z : List Value, e = .returned (.tuple #[.agg z.toArray, .int .i64 (decE l)]) ∧ CodeR w' w'.heap.size z (decC l) := by
  have hmf : ∀ (fn : Fn) (first cap : Array Value) (w : World), (Instr.makeFunc fn first cap).run Try.prog w = .ok (.func fn first cap) w := fun _ _ _ _ => rfl
  have hag : ∀ w : World, (isAgg 34).run Try.prog w = .ok false w := fun _ => rfl
  obtain ⟨A, c, hveq, hn, hc, _⟩ := hv.open_
  unfold maxLen at hc
  by_cases hlong : 1048576 < l.length
  · have hE : decE l = 2 := by unfold decE; rw [if_pos hlong]
    have hC : decC l = noCode := by unfold decC; rw [if_pos hlong]
    rw [hE, hC]
    subst hveq
    have HV := hid hv
    clear hv hE hC
    go_enter_defers Try.func12, Try.ntmps12
    go_wp2_with fail
    have hb2 : Below w.heap.size w ((w.alloc (.cells #[.slice none 0 0, .slice none 0 0, .slice none 0 0, .slice none 0 0, .slice none 0 0, .int .i64 0, .bool false] 28)).alloc (.cells #[.int .i64 2] 34)) := ((Below.refl _ _).alloc (Nat.le_refl _) _).alloc (by simp) _
    exact ⟨_, results_cells2 rfl rfl rfl (two_new w (.cells #[.slice none 0 0, .slice none 0 0, .slice none 0 0, .slice none 0 0, .slice none 0 0, .int .i64 0, .bool false] 28) (.cells #[.int .i64 2] 34)).1 (two_new w (.cells #[.slice none 0 0, .slice none 0 0, .slice none 0 0, .slice none 0 0, .slice none 0 0, .int .i64 0, .bool false] 28) (.cells #[.int .i64 2] 34)).2 Try.underlying28 rfl (by kernel_rfl) Try.underlying34 hag, hb2, _, rfl, noCode_reads _ _⟩
  · have hL : l.length ≤ 1048576 := by omega
    have HL := hid hlong
    obtain ⟨w1, hw1⟩ : ∃ w1, (((w.alloc (.cells #[.slice none 0 0, .slice none 0 0, .slice none 0 0, .slice none 0 0, .slice none 0 0, .int .i64 0, .bool false] 28)).alloc (.cells #[.int .i64 0] 34)).alloc (.cells #[v, .int .i64 0] 70)) = w1 := ⟨_, rfl⟩
    have hb1 : Below w.heap.size w w1 := by
      rw [← hw1]
      exact (((Below.refl _ _).alloc (Nat.le_refl _) _).alloc (by simp) _).alloc (by simp; omega) _
    have hs1 : w1.heap.size = w.heap.size + 3 := by rw [← hw1]; simp
    have p1 : w1.heap[w.heap.size]? = some (.cells #[.slice none 0 0, .slice none 0 0, .slice none 0 0, .slice none 0 0, .slice none 0 0, .int .i64 0, .bool false] 28 (0, 0)) := by
      rw [← hw1]; exact block_turn (two_new w _ _).1 (Turn.alloc (fun _ => False) _ _) id
    have q1 : w1.heap[w.heap.size + 1]? = some (.cells #[.int .i64 0] 34 (0, 0)) := by
      rw [← hw1]; exact block_turn (two_new w _ _).2 (Turn.alloc (fun _ => False) _ _) id
    have r1 : w1.heap[w.heap.size + 1 + 1]? = some (.cells #[v, .int .i64 0] 70 (0, 0)) := by
      rw [← hw1]
      have := heap_alloc_new ((w.alloc (.cells #[.slice none 0 0, .slice none 0 0, .slice none 0 0, .slice none 0 0, .slice none 0 0, .int .i64 0, .bool false] 28)).alloc (.cells #[.int .i64 0] 34)) (.cells #[v, .int .i64 0] 70)
      have hs : ((w.alloc (.cells #[.slice none 0 0, .slice none 0 0, .slice none 0 0, .slice none 0 0, .slice none 0 0, .int .i64 0, .bool false] 28)).alloc (.cells #[.int .i64 0] 34)).heap.size = w.heap.size + 1 + 1 := by simp
      rwa [hs] at this
    have hR : RdAt w1 (w.heap.size + 1 + 1) w.heap.size l 0 := ⟨by omega, hL, v, r1, hv.below hb1⟩
    have HC := hid (rdcode_any w1 (w.heap.size + 1 + 1) w.heap.size l hR)
    rcases hq : wholeD l with _ | c'
    · have hE : decE l = 20 := by unfold decE; rw [if_neg hlong, hq]; rfl
      have hC : decC l = noCode := by unfold decC; rw [if_neg hlong, hq]; rfl
      rw [hE, hC]
      have hO : wholeO l = none := by unfold wholeO; rw [hq]; rfl
      have HO := hid hO
      have HB1 := hid hb1
      have P1 := hid p1
      have Q1 := hid q1
      clear hv hE hC hR hO hq hb1 p1 q1 r1
      subst hveq
      go_enter_defers Try.func12, Try.ntmps12
      go_wp2_with fail
      refine HC.out.mono ?_
      rintro e w2 h2
      obtain ⟨rfl, t2⟩ := h2.none_ HO.out
      clear h2
      go_wp2_with fail
      refine leaves_cons (f := 29) (args := #[.pointer (some ⟨w.heap.size, 0, none⟩), .pointer (some ⟨w.heap.size + 1, 0, none⟩)]) (by simp) (by simp [go_sem]) ?_
      refine (catch_broken w.heap.size (w.heap.size + 1) (by omega) [] w2 (block_turn P1.out t2 (by omega)) (block_turn Q1.out t2 (by omega))).mono ?_
      rintro e u3 w3 ⟨rfl, rfl, t3, p3, q3⟩
      have hb3 : Below w.heap.size w w3 := (HB1.out.trans (t2.below (by omega) (fun j hj e => by omega))).trans (t3.below (by have := t2.size; omega) (fun j hj e => by omega))
      exact ⟨_, results_cells2 rfl rfl rfl p3 q3 Try.underlying28 rfl (by kernel_rfl) Try.underlying34 hag, hb3, _, rfl, noCode_reads _ _⟩
    · have hE : decE l = 0 := by unfold decE; rw [if_neg hlong, hq]; rfl
      have hC : decC l = c' := by unfold decC; rw [if_neg hlong, hq]; rfl
      rw [hE, hC]
      have hO : wholeO l = some (c', []) := by unfold wholeO; rw [hq]; rfl
      have HO := hid hO
      have HB1 := hid hb1
      have P1 := hid p1
      have Q1 := hid q1
      clear hv hE hC hR hO hq hb1 p1 q1 r1
      subst hveq
      go_enter_defers Try.func12, Try.ntmps12
      go_wp2_with fail
      refine HC.out.mono ?_
      rintro e w2 h2
      obtain ⟨v2, rfl, t2, hv2, hr2⟩ := h2.some_ HO.out
      obtain ⟨z0, rfl, hz0⟩ := hv2 w2 (Turn.refl _ _)
      have hv3 : ∀ w'', Turn (fun k => k < w1.heap.size) w2 w'' → CodeR w'' w''.heap.size z0 c' := fun w'' t => by
        obtain ⟨z, e, hz⟩ := hv2 w'' t
        injection e with e
        have : z0 = z := by have := congrArg Array.toList e; simpa using this
        rw [this]; exact hz
      obtain ⟨vi, vs, vh, vc, vp, xh, xc, xp, rfl, s1, s2, s3, s4, s5, s6, s7, s8⟩ := hz0
      obtain ⟨A1, n1, c1, rfl⟩ := sl_shape s1
      obtain ⟨A2, n2, c2, rfl⟩ := sl_shape s2
      obtain ⟨A3, n3, c3, rfl⟩ := sl_shape s3
      obtain ⟨A4, n4, c4, rfl⟩ := sl_shape s5
      obtain ⟨A5, n5, c5, rfl⟩ := sl_shape s7
      have p2 := block_turn P1.out t2 (by omega)
      have q2 := block_turn Q1.out t2 (by omega)
      have T2 := hid t2
      have HV3 := hid hv3
      clear h2 hv2 hv3 hr2 s1 s2 s3 s4 s5 s6 s7 s8 t2 HC
      have g0 : w2.cell? ⟨w.heap.size, 0, none⟩ = some (.slice none 0 0) := (cell_of_row w2 _ 0 _ _ _ p2).trans rfl
      have g1 : w2.cell? ⟨w.heap.size, 1, none⟩ = some (.slice none 0 0) := (cell_of_row w2 _ 1 _ _ _ p2).trans rfl
      have g2 : w2.cell? ⟨w.heap.size, 2, none⟩ = some (.slice none 0 0) := (cell_of_row w2 _ 2 _ _ _ p2).trans rfl
      have g3 : w2.cell? ⟨w.heap.size, 3, none⟩ = some (.slice none 0 0) := (cell_of_row w2 _ 3 _ _ _ p2).trans rfl
      have g4 : w2.cell? ⟨w.heap.size, 4, none⟩ = some (.slice none 0 0) := (cell_of_row w2 _ 4 _ _ _ p2).trans rfl
      have g5 : w2.cell? ⟨w.heap.size, 5, none⟩ = some (.int .i64 0) := (cell_of_row w2 _ 5 _ _ _ p2).trans rfl
      have g6 : w2.cell? ⟨w.heap.size, 6, none⟩ = some (.bool false) := (cell_of_row w2 _ 6 _ _ _ p2).trans rfl
      have e0 : w2.cell? ⟨w.heap.size + 1, 0, none⟩ = some (.int .i64 0) := (cell_of_row w2 _ 0 _ _ _ q2).trans rfl
      have z0 := block_free p2
      have y0 := block_free q2
      have P2 := hid p2
      have Q2 := hid q2
      clear p2 q2
      go_wp2_with fail
      have ec := heap_setCell_same _ _ 6 _ _ (.bool c'.merge) (heap_setCell_same _ _ 5 _ _ (.int .i64 c'.main) (heap_setCell_same _ _ 4 _ _ (.slice A5 n5 c5) (heap_setCell_same _ _ 3 _ _ (.slice A4 n4 c4) (heap_setCell_same _ _ 2 _ _ (.slice A3 n3 c3) (heap_setCell_same _ _ 1 _ _ (.slice A2 n2 c2) (heap_setCell_same _ _ 0 _ _ (.slice A1 n1 c1) (P2.out)))))))
      have tc := ((turn_set w2 w.heap.size 0 (.slice A1 n1 c1)).trans ((turn_set _ w.heap.size 1 (.slice A2 n2 c2)).trans ((turn_set _ w.heap.size 2 (.slice A3 n3 c3)).trans ((turn_set _ w.heap.size 3 (.slice A4 n4 c4)).trans ((turn_set _ w.heap.size 4 (.slice A5 n5 c5)).trans ((turn_set _ w.heap.size 5 (.int .i64 c'.main)).trans (turn_set _ w.heap.size 6 (.bool c'.merge)) (fun _ _ h => h)) (fun _ _ h => h)) (fun _ _ h => h)) (fun _ _ h => h)) (fun _ _ h => h)) (fun _ _ h => h))
      have eq := block_turn Q2.out tc (by omega)
      have eq2 := heap_setCell_same _ _ 0 _ _ (.int .i64 0) eq
      have tq := turn_set _ (w.heap.size + 1) 0 (.int .i64 0) |> fun h => (tc.mono (G := fun k => k = w.heap.size ∨ k = w.heap.size + 1) (fun _ _ h => .inl h)).trans h (fun _ _ h => .inr h)
      have ec2 := block_turn ec (turn_set _ (w.heap.size + 1) 0 (.int .i64 0)) (by omega)
      refine leaves_cons (f := 29) (args := #[.pointer (some ⟨w.heap.size, 0, none⟩), .pointer (some ⟨w.heap.size + 1, 0, none⟩)]) (by simp) (by simp [go_sem]) ?_
      refine (catch_idle _ _ _).mono ?_
      rintro e u3 w3 ⟨rfl, rfl, rfl⟩
      have hb3 := (HB1.out.trans (T2.out.below (by omega) (fun j hj e => by omega))).trans (tq.below (by have := T2.out.size; omega) (fun j hj e => by omega))
      exact ⟨_, results_cells2 rfl rfl rfl ec2 eq2 Try.underlying28 rfl (by kernel_rfl) Try.underlying34 hag, hb3, _, rfl, HV3.out _ (tq.mono (fun j _ hj => by omega))⟩
end Go.Proofs.Ytpnggkkfoipfhaa
