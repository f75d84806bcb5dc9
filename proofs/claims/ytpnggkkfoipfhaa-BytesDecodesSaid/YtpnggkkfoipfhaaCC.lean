/- A reader of bytes: texts, needs, instructions. -/
import Derived.Test.YtpnggkkfoipfhaaCB
set_option linter.unusedVariables false
namespace Go.Proofs.Ytpnggkkfoipfhaa
open Go.RowKit

theorem ReadsTo.mono_ {α : Type} {P Q : World → Value → α → Prop} {bk B : Nat} {d : Int} {w w' : World} {q : Option (α × Bt)} {e : Ending} (h : ReadsTo P bk B d w q e w') (hP : ∀ w v x r, q = some (x, r) → P w v x → Q w v x) : ReadsTo Q bk B d w q e w' := by
  rcases q with _ | ⟨x, r⟩
  · exact h
  · obtain ⟨t, v, h1, h2, h3⟩ := h
    exact ⟨t, v, h1, fun w'' t => hP _ _ _ _ rfl (h2 w'' t), h3⟩
/-- How the elements read. -/
def RInt (w : World) (z : List Value) (x : Int) : Prop := z = [.int .i64 x]
def RText (w : World) (z : List Value) (x : Bt) : Prop := z = [sv x]
def RNeed (w : World) (z : List Value) (x : Bt × Int) : Prop := z = [sv x.1, .int .i64 x.2]
def RTexts (w : World) (z : List Value) (x : List Bt) : Prop := ∃ v, z = [v] ∧ Ss w w.heap.size v x
def RCo (w : World) (z : List Value) (x : CoD) : Prop := CoR w w.heap.size z x
def RInstr (w : World) (z : List Value) (x : Int × Int × Int × Int) : Prop := z = [.int .i64 x.1, .int .i64 x.2.1, .int .i64 x.2.2.1, .int .i64 x.2.2.2]
def RProc (w : World) (z : List Value) (x : ProcD) : Prop := ∃ v, z = [.int .i64 x.caps, .int .i64 x.regs, v] ∧ Sl w w.heap.size 4 v (instrsV x.code)
theorem row_ints {w : World} {k : Nat} : ∀ {xs : List Value} {ys : List Int}, RowR RInt k w xs ys → xs = intsV ys
  | _, _, .nil => rfl
  | _, _, .cons h1 h2 h3 => by rw [row_ints h3, h2]; rfl
theorem row_texts {w : World} {k : Nat} : ∀ {xs : List Value} {ys : List Bt}, RowR RText k w xs ys → xs = svs ys
  | _, _, .nil => rfl
  | _, _, .cons h1 h2 h3 => by rw [row_texts h3, h2]; rfl
theorem row_needs {w : World} {k : Nat} : ∀ {xs : List Value} {ys : List (Bt × Int)}, RowR RNeed k w xs ys → xs = needsV ys
  | _, _, .nil => rfl
  | _, _, .cons h1 h2 h3 => by rw [row_needs h3, h2]; rfl
theorem row_instrs {w : World} {k : Nat} : ∀ {xs : List Value} {ys : List (Int × Int × Int × Int)}, RowR RInstr k w xs ys → xs = instrsV ys
  | _, _, .nil => rfl
  | _, _, .cons h1 h2 h3 => by rw [row_instrs h3, h2]; rfl
theorem row_cos {w : World} {k : Nat} : ∀ {xs : List Value} {ys : List CoD}, RowR RCo k w xs ys → CosR w w.heap.size xs ys
  | _, _, .nil => .nil
  | _, _, .cons h1 h2 h3 => .cons h2 (row_cos h3)
theorem row_shapes {w : World} {k : Nat} : ∀ {xs : List Value} {ys : List (List Bt)}, RowR RTexts k w xs ys → ShapesR w w.heap.size xs ys
  | _, _, .nil => ⟨rfl, fun i hi => absurd hi (by simp)⟩
  | _, _, .cons h1 h2 h3 => by
    obtain ⟨v, rfl, hv⟩ := h2
    obtain ⟨a, b⟩ := row_shapes h3
    refine ⟨by simp [a], fun i hi => ?_⟩
    rcases i with _ | i
    · exact ⟨v, rfl, hv⟩
    · exact b i (by simpa using hi)
theorem row_procs {w : World} {k : Nat} : ∀ {xs : List Value} {ys : List ProcD}, RowR RProc k w xs ys → ProcsR w w.heap.size xs ys
  | _, _, .nil => ⟨rfl, fun i hi => absurd hi (by simp)⟩
  | _, _, .cons h1 h2 h3 => by
    obtain ⟨v, rfl, hv⟩ := h2
    obtain ⟨a, b⟩ := row_procs h3
    refine ⟨by simp [a]; omega, fun i hi => ?_⟩
    rcases i with _ | i
    · exact ⟨v, by simp, hv⟩
    · obtain ⟨u, h4, h5⟩ := b i (by simpa using hi)
      refine ⟨u, ?_, h5⟩
      rw [show (i + 1) * 3 = i * 3 + 3 by omega]
      exact h4
theorem list_ints {w : World} {v : Value} {x : List Int} (h : ListP 1 RInt w v x) : Sl w w.heap.size 1 v (intsV x) := by
  obtain ⟨xs, h1, h2⟩ := h
  rw [row_ints h2] at h1; exact h1
theorem list_texts {w : World} {v : Value} {x : List Bt} (h : ListP 1 RText w v x) : Ss w w.heap.size v x := by
  obtain ⟨xs, h1, h2⟩ := h
  rw [row_texts h2] at h1; exact h1
theorem list_needs {w : World} {v : Value} {x : List (Bt × Int)} (h : ListP 2 RNeed w v x) : Sl w w.heap.size 2 v (needsV x) := by
  obtain ⟨xs, h1, h2⟩ := h
  rw [row_needs h2] at h1; exact h1
theorem list_instrs {w : World} {v : Value} {x : List (Int × Int × Int × Int)} (h : ListP 4 RInstr w v x) : Sl w w.heap.size 4 v (instrsV x) := by
  obtain ⟨xs, h1, h2⟩ := h
  rw [row_instrs h2] at h1; exact h1
theorem el1_int (w1 : World) (bk B : Nat) (l1 : Bt) (d : Int) (h : RdAt w1 bk B l1 d) : Calls Try.prog 50 #[.pointer (some ⟨bk, 0, none⟩)] w1 fun e w' => ReadsTo (El1 (fun v => ∃ n12, v = Value.int .i64 n12) RInt) bk B d w1 (numD l1) e w' :=
  (rdnum_any w1 bk B l1 d h).mono fun _ _ h => h.mono_ fun _ v x _ _ hv => ⟨⟨x, hv⟩, by rw [hv]; rfl⟩
theorem el1_text (w1 : World) (bk B : Nat) (l1 : Bt) (d : Int) (h : RdAt w1 bk B l1 d) : Calls Try.prog 66 #[.pointer (some ⟨bk, 0, none⟩)] w1 fun e w' => ReadsTo (El1 (fun v => ∃ s12, v = Value.string s12) RText) bk B d w1 (textD l1) e w' :=
  (rdtext_any w1 bk B l1 d h).mono fun _ _ h => h.mono_ fun _ v x _ _ hv => ⟨⟨_, hv⟩, by rw [hv]; rfl⟩
/-- Lists of numbers, of texts. -/
theorem rdints_any (w : World) (bk B : Nat) (l : Bt) (d : Int) (hR : RdAt w bk B l d) :
    Calls Try.prog 52 #[.pointer (some ⟨bk, 0, none⟩), .func (.func 50) #[.pointer (some ⟨bk, 0, none⟩)] #[]] w fun e w' => ReadsTo (fun w v x => Sl w w.heap.size 1 v (intsV x)) bk B d w (allD numD l) e w' :=
  (all_int_any numD RInt w bk B l d hR (fun w1 l1 h => el1_int w1 bk B l1 d h)).mono fun _ _ h => h.mono_ fun _ _ _ _ _ hv => list_ints hv
theorem rdtexts_any (w : World) (bk B : Nat) (l : Bt) (d : Int) (hR : RdAt w bk B l d) :
    Calls Try.prog 53 #[.pointer (some ⟨bk, 0, none⟩)] w fun e w' => ReadsTo (fun w v x => Ss w w.heap.size v x) bk B d w (allD textD l) e w' := by
  have hmf : ∀ (fn : Fn) (first cap : Array Value) (w : World), (Instr.makeFunc fn first cap).run Try.prog w = .ok (.func fn first cap) w := fun _ _ _ _ => rfl
  have HA := hid ((all_string_any textD RText w bk B l d hR (fun w1 l1 h => el1_text w1 bk B l1 d h)).mono (R' := fun e w' => ReadsTo (fun w v x => Ss w w.heap.size v x) bk B d w (allD textD l) e w') fun _ _ h => h.mono_ fun _ _ _ _ _ hv => list_texts hv)
  clear hR
  go_enter Try.func53, Try.ntmps53
  go_wp2_with fail
  refine HA.out.mono ?_
  rintro e w2 h2
  rcases hq : allD textD l with _ | ⟨x, r⟩
  · obtain ⟨rfl, t2⟩ := h2.none_ hq
    have HQ := hid hq
    clear hq h2
    go_wp2_with fail
    exact ⟨rfl, ReadsTo.fail HQ.out t2⟩
  · obtain ⟨v2, rfl, t2, hv2, hr2⟩ := h2.some_ hq
    have HV := hid hv2
    have HQ := hid hq
    clear hq h2 hv2 HA
    go_wp2_with fail
    go_ret
    exact ReadsTo.done HQ.out t2 HV.out hr2

theorem results_cell {P : Program} {fn : Func} {t : Tmp} {T : TypeId} {tmps : Array Value} {w : World} {b : Nat} {cs : Array Value} {S : TypeId} {d : TypeDesc} (h : fn.results = #[.cell t T]) (ht : tmps.getD t undef = .pointer (some ⟨b, 0, none⟩)) (hb : w.heap[b]? = some (.cells cs S (0, 0)))
    (hu : P.underlying T = some d) (hd : (match d with | .struct _ | .array _ _ => true | _ => false) = true) (hi : (P.info? T).map (·.size) = some cs.size) : (results fn tmps).run P w = .ok (.agg cs) w := by
  have h1 := run_loadVar_row (P := P) w b S T cs (0, 0) d hb hu hd hi
  have e : tmps[t]?.getD undef = .pointer (some ⟨b, 0, none⟩) := by simpa using ht
  have h2 : (asAddr (.pointer (some ⟨b, 0, none⟩))).run P w = .ok ⟨b, 0, none⟩ w := rfl
  simp [results, h, e, h1, h2]
set_option maxHeartbeats 1000000 in
theorem rdneed_any (w : World) (bk B : Nat) (l : Bt) (d : Int) (hR : RdAt w bk B l d) :
    Calls Try.prog 68 #[.pointer (some ⟨bk, 0, none⟩)] w fun e w' => ReadsTo (ElK 2 RNeed) bk B d w (needD l) e w' := by
  have hlt := hR.lt
  have HN := hid (rdtext_any (w.alloc (.cells #[.string ⟨#[]⟩, .int .i64 0] 84)) bk B l d (hR.below ((Below.refl _ _).alloc (Nat.le_refl _) _)))
  have hB := hR.1
  clear hR
  rcases hq : textD l with _ | ⟨s, r⟩
  · have hm : needD l = none := by unfold needD andD; rw [hq]
    have HQ := hid hq
    have HM := hid hm
    clear hq hm
    go_enter Try.func68, Try.ntmps68
    go_wp2_with fail
    refine HN.out.mono ?_
    rintro e w2 h2
    obtain ⟨rfl, t2⟩ := h2.none_ HQ.out
    clear h2
    go_wp2_with fail
    exact ⟨rfl, ReadsTo.fail HM.out ((Turn.alloc _ w _).trans t2 (fun _ _ h => h))⟩
  · have HQ := hid hq
    clear hq
    go_enter Try.func68, Try.ntmps68
    go_wp2_with fail
    refine HN.out.mono ?_
    rintro e w2 h2
    obtain ⟨v2, rfl, t2, hv2, hr2⟩ := h2.some_ HQ.out
    obtain rfl := hv2 w2 (Turn.refl _ _)
    have c2 := block_turn (heap_alloc_new w (.cells #[.string ⟨#[]⟩, .int .i64 0] 84)) t2 (by omega)
    have T2 := hid ((Turn.alloc (fun k => k = bk) w _).trans t2 (fun _ _ h => h))
    have HN2 := hid (rdnum_any w2 bk B r d hr2)
    clear h2 hv2 t2 hr2 HN
    rcases hq3 : numD r with _ | ⟨n, r'⟩
    · have hm : needD l = none := by unfold needD andD; rw [HQ.out]; simp only; rw [hq3]
      have HQ3 := hid hq3
      have HM := hid hm
      have C2 := hid c2
      clear hq3 hm c2
      go_wp2_with fail
      refine HN2.out.mono ?_
      rintro e w3 h3
      obtain ⟨rfl, t3⟩ := h3.none_ HQ3.out
      clear h3
      go_wp2_with fail
      exact ⟨rfl, ReadsTo.fail HM.out (turn_same T2.out t3)⟩
    · have hm : needD l = some ((s, n), r') := by unfold needD andD; rw [HQ.out]; simp only; rw [hq3]
      have HQ3 := hid hq3
      have HM := hid hm
      have C2 := hid c2
      clear hq3 hm c2
      go_wp2_with fail
      refine HN2.out.mono ?_
      rintro e w3 h3
      obtain ⟨v3, rfl, t3, hv3, hr3⟩ := h3.some_ HQ3.out
      obtain rfl := hv3 w3 (Turn.refl _ _)
      have c3 := block_turn C2.out t3 (by omega)
      have c30 : w3.cell? ⟨w.heap.size, 0, none⟩ = some (.string ⟨#[]⟩) := by simp [World.cell?, c3]
      have c31 : w3.cell? ⟨w.heap.size, 1, none⟩ = some (.int .i64 0) := by simp [World.cell?, c3]
      have z30 : ∀ i, w3.frozen? ⟨w.heap.size, i, none⟩ = false := block_free c3
      have C3 := hid c3
      have HR3 := hid hr3
      clear h3 hv3 hr3 c3 HN2
      go_wp2_with fail
      have e1 : ((w3.setCell ⟨w.heap.size, 0, none⟩ (sv s)).setCell ⟨w.heap.size, 1, none⟩ (.int .i64 n)).heap[w.heap.size]? = some (.cells #[sv s, .int .i64 n] 84 (0, 0)) := heap_setCell_same _ _ 1 _ _ _ (heap_setCell_same _ _ 0 _ _ _ C3.out)
      refine bodyPost_ret (results_cell rfl rfl e1 Try.underlying84 rfl (by kernel_rfl)) rfl ?_
      have t4 : Turn (fun k => k = w.heap.size) w3 ((w3.setCell ⟨w.heap.size, 0, none⟩ (sv s)).setCell ⟨w.heap.size, 1, none⟩ (.int .i64 n)) := (turn_set w3 _ 0 _).trans (turn_set _ _ 1 _) (fun _ _ h => h)
      refine ReadsTo.done HM.out ((turn_same T2.out t3).trans t4 (fun j hj e => by omega)) (fun _ _ => ⟨[sv s, .int .i64 n], rfl, rfl, ?_, rfl⟩) (HR3.out.turn t4 (by omega) (fun j hj e => by omega))
      intro u hu
      simp only [List.mem_cons, List.not_mem_nil, or_false] at hu
      rcases hu with rfl | rfl <;> rfl
end Go.Proofs.Ytpnggkkfoipfhaa
