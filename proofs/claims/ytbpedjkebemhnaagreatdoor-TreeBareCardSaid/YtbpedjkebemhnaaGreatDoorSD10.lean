/- UM, UN -/
import Derived.Test.YtbpedjkebemhnaaGreatDoorSD06
import Derived.Test.YtbpedjkebemhnaaGreatDoorSD08
import Derived.Test.YtbpedjkebemhnaaGreatDoorSD01
import Derived.Test.YtbpedjkebemhnaaGreatDoorSD05
import Derived.Test.YtbpedjkebemhnaaGreatDoorSD07
set_option linter.unusedSimpArgs false
set_option linter.unusedVariables false
section
/- An expression as text: the list of what is within, simple ones. -/
set_option linter.unusedVariables false
namespace Go.Proofs.YtbpedjkebemhnaaGreatDoor
open Go.RowKit

theorem node_open {m : Nat} {k : Int} {text : Bt} {n li co : Int} {ts : List TyD} {ns : List Bt} {ks : List NoD} (h : nodeB m (.mk k text n li co ts ns ks) = true) :
    ∃ q, m = q + 1 ∧ (0 ≤ k ∧ k < 20) ∧ ownN k text n ts.length ns.length ks.length = true ∧ (∀ x ∈ ns, x.length ≤ 32) ∧ ts.all (writtenB 16) = true ∧ (∀ x ∈ ks, nodeB q x = true) := by
  cases m with
  | zero => cases h
  | succ q =>
    have h : (decide (0 ≤ k ∧ k < 20) && ownN k text n ts.length ns.length ks.length && ns.all nameL && ts.all (writtenB 16) && ks.all (nodeB q)) = true := h
    rw [Bool.and_eq_true, Bool.and_eq_true, Bool.and_eq_true, Bool.and_eq_true, decide_eq_true_eq] at h
    exact ⟨q, rfl, h.1.1.1.1, h.1.1.1.2, fun x hx => nameL_len (List.all_eq_true.1 h.1.1.2 x hx), h.1.2, fun x hx => List.all_eq_true.1 h.2 x hx⟩
/-- A row of texts, one more behind it: one step of a region. -/
theorem step_appS {P : Program} {ops : Array Oper} {o : Oper} {a : Act} {w : World} {K : Act → World → Prop} {Q : Exit → Act → World → Prop} {E : Prop} (hgd : o.guard = none) (s x : Operand) (t : TypeId)
    (ho : o.op = .call { callee := .builtin .append, args := #[s, x], argTypes := #[t, t] })
    (base : Nat) {e : TypeId} {z : Value} (hE : ElemIs P t e z 1 16) (v y : Value) (hs : a.eval s = v) (hx : a.eval x = y)
    {l : List Bt} (hown : OwnS w base e v l) {B : Nat} {m : List Bt} (hy : Ss w B y m) (hlen : l.length + m.length ≤ 8796093022208) (hbase : base ≤ w.heap.size)
    (h : ∀ v' w', OwnS w' base e v' (l ++ m) → w.grownBy w' v.ownBlock → (v'.ownBlock = v.ownBlock ∨ v'.ownBlock = some w.heap.size) → K (a.put o.dst v') w') :
    if Region.wanted o (yielded ops a.tmps) = true then Oper.wp P o a w K Q else E :=
  step_app hgd s x t ho base hE v y hs hx hown.row hy (svs_one _) (by simp only [svs_length, maxLen]; omega) (by rw [svs_length]; omega) hbase
    (fun v' w' n' h1 h2 h3 => h v' w' ⟨n', by rw [svs_append]; exact h1⟩ h2 h3)
/-- What stands in memory while the texts of what is within are put together: a list in a box, the node. -/
structure ExAt (w wr : World) (OB : Obj) (v : Value) (l : List Bt) : Prop where
  box : wr.heap[w.heap.size + 1]? = some (.cells #[v] 23 (0, 0))
  own : OwnS wr (w.heap.size + 2) 9 v l
  node : wr.heap[w.heap.size]? = some OB
  below : Below w.heap.size w wr
theorem ExAt.far {w wr w' : World} {OB : Obj} {v : Value} {l : List Bt} (h : ExAt w wr OB v l) (hb : Below wr.heap.size wr w') : ExAt w w' OB v l :=
  ⟨(hb.block _ (block_lt h.box)).trans h.box, h.own.below hb, (hb.block _ (block_lt h.node)).trans h.node, h.below.trans (hb.mono h.below.size)⟩
theorem ExAt.cell {w wr : World} {OB : Obj} {v : Value} {l : List Bt} (h : ExAt w wr OB v l) : wr.cell? ⟨w.heap.size + 1, 0, none⟩ = some v := (cell_of_row _ _ _ _ _ _ h.box).trans rfl
theorem ExAt.grown {w wr w' : World} {OB : Obj} {v v' : Value} {l l' : List Bt} (h : ExAt w wr OB v l) (ho : OwnS w' (w.heap.size + 2) 9 v' l') (hg : wr.grownBy w' v.ownBlock) :
    w'.cell? ⟨w.heap.size + 1, 0, none⟩ = some v ∧ w'.frozen? ⟨w.heap.size + 1, 0, none⟩ = false ∧ ExAt w (w'.setCell ⟨w.heap.size + 1, 0, none⟩ v') OB v' l' := by
  have hlt := h.own.lt
  have hb := (hg.block _ (block_lt h.box) (by intro e; have := (hlt _ e.symm).1; omega)).trans h.box
  have hn := (hg.block _ (block_lt h.node) (by intro e; have := (hlt _ e.symm).1; omega)).trans h.node
  have hbl : Below w.heap.size w w' := h.below.grown hg h.below.size (fun k hk => by have := (hlt k hk).1; omega)
  have t := turn_set w' (w.heap.size + 1) 0 v'
  refine ⟨(cell_of_row _ _ _ _ _ _ hb).trans rfl, block_free hb 0, heap_setCell_same _ _ _ _ _ _ hb, ho.turn t (fun g hg e => by have := (ho.lt g hg).1; omega), block_turn hn t (by omega), hbl.trans (t.below hbl.size (fun k hk e => by omega))⟩
theorem OwnS.cell {w : World} {base : Nat} {e : TypeId} {g c n : Nat} {l : List Bt} (h : OwnS w base e (.slice (some ⟨g, 0, none⟩) n c) l) (j : Nat) (hj : j < l.length) : w.cell? ⟨g, j, none⟩ = some (sv l[j]) := by
  have := h.row.cells (g := g) rfl j _ (svs_get l j hj)
  rwa [plain_add, Nat.zero_add] at this
set_option maxRecDepth 100000 in
set_option maxHeartbeats 2000000 in
theorem expr1_any (w : World) (bt bk : Nat) (k : Int) (text : Bt) (n li co : Int) (A1 : Option Addr) (n1 c1 : Nat) (A2 : Option Addr) (a c2 : Nat) (A3 : Option Addr) (n3 c3 : Nat) (g : Nat) (d c : Nat) (ns S : List Bt)
    (hbt : w.heap[bt]? = some (.cells #[.int .i64 k, sv text, .int .i64 n, .int .i64 li, .int .i64 co, .slice A1 n1 c1, .slice A2 a c2, .slice A3 n3 c3] 26 (0, 0))) (hbk : w.cell? ⟨bk, 0, none⟩ = some (.slice (some ⟨g, 0, none⟩) d c))
    (s2 : Ss w w.heap.size (.slice A2 a c2) ns) (hS : ∀ (j : Nat) (hj : j < S.length), w.cell? ⟨g, j, none⟩ = some (sv S[j])) (hd : d = S.length) (hdc : d ≤ 1000000) (ha : a = ns.length) (i : Nat) (hi : i < S.length) (hin : i < ns.length) (hl1 : ns[i].length ≤ 32) (hl2 : S[i].length ≤ 1000000000) :
    Calls Tryz.prog 73 #[.int .i64 (i : Int), .pointer (some ⟨bt, 0, none⟩), .pointer (some ⟨bk, 0, none⟩)] w fun e w' => e = .returned (sv (fieldS ns[i] S[i])) ∧ Below w.heap.size w w' := by
  obtain ⟨_, _, _, _, _, _, g6, _⟩ := t_row8 hbt
  subst ha
  obtain ⟨b1, o1, rfl, d0⟩ := text_at s2 hin
  have e0 := hS i hi
  have l1 := (t_sl_len s2).2
  have hsz0 := sv_size ns[i]
  have hsz1 := sv_size S[i]
  have hid_ : i < d := by omega
  generalize ns[i] = X at *
  generalize S[i] = s at *
  generalize ns.length = a at *
  have HF : Hid (fieldS X s = (X ++ [58, 32]) ++ s) := hid (by unfold fieldS; rw [List.append_assoc])
  have q0 : ¬ (9223372036854775807 < X.length + 2) := by omega
  have q1 : ¬ (9223372036854775807 < X.length + 2 + s.length) := by omega
  have G6 := hid g6
  have D0 := hid d0
  have E0 := hid e0
  have GK := hid hbk
  have HB0 : Hid (Below w.heap.size w w.drew) := hid (below_drawn w 1)
  clear hbt s2 hS hd g6 d0 e0 hbk hl1 hl2 hi
  go_enter Tryz.func73, Tryz.ntmps73
  go_wp2_with fail
  refine wp_region_held_drew (S := fun w' => Below w.heap.size w w') (by kernel_rfl) HB0.out (fun _ => ?_)
  try simp only [Act.put, List.getElem_toArray, List.getElem_cons_zero, List.getElem_cons_succ, List.setIfInBounds_toArray, List.set_cons_zero, List.set_cons_succ]
  refine tk 0 (.pointer (some ⟨bt, 6, none⟩)) HB0.out ?_
  refine tkf 1 (.slice (some ⟨b1, o1, none⟩) a c2) (kp1 G6.out) HB0.out ?_
  refine tk 2 (.int .i64 (i : Int)) HB0.out ?_
  refine tk 3 (.pointer (some ⟨b1, o1 + i, none⟩)) HB0.out ?_
  refine tkf 4 (sv X) (kp1 D0.out) HB0.out ?_
  refine tk 5 (.string ((⟨X.toArray⟩ : ByteArray) ++ ⟨#[58, 32]⟩)) HB0.out ?_
  refine tkf 6 (.slice (some ⟨g, 0, none⟩) d c) (kp1 GK.out) HB0.out ?_
  refine tk 7 (.int .i64 (i : Int)) HB0.out ?_
  refine tk 8 (.pointer (some ⟨g, i, none⟩)) HB0.out ?_
  refine tkf 9 (sv s) (kp1 E0.out) HB0.out ?_
  refine tk 10 (.string ((⟨X.toArray⟩ : ByteArray) ++ ⟨#[58, 32]⟩ ++ ⟨s.toArray⟩)) HB0.out ?_
  refine tk 11 (.string ((⟨X.toArray⟩ : ByteArray) ++ ⟨#[58, 32]⟩ ++ ⟨s.toArray⟩)) HB0.out ?_
  refine wpAnyH_done (by kernel_rfl) ?_ _
  go_wp2_with fail
  go_ret
  refine ⟨?_, HB0.out⟩
  rw [HF.out]
  have e : (⟨X.toArray⟩ : ByteArray) ++ ⟨([58, 32] : Bt).toArray⟩ ++ ⟨s.toArray⟩ = ⟨(X ++ ([58, 32] : Bt) ++ s).toArray⟩ := by
    rw [str_append, str_append]
  exact congrArg (fun b => Ending.returned (Value.string b)) e
set_option maxRecDepth 100000 in
set_option maxHeartbeats 4000000 in
theorem simple_any (w : World) (z : List Value) (k : Int) (text : Bt) (n li co : Int) (ts : List TyD) (ns : List Bt) (ks : List NoD) (hr : NoR w w.heap.size z (.mk k text n li co ts ns ks)) (hk : k = 0 ∨ k = 1 ∨ k = 2 ∨ k = 3 ∨ k = 4 ∨ k = 18 ∨ k = 19) (hn : In64 n) (h2 : k = 2 → n = 0 ∨ n = 1) (ht : text.length ≤ 256) (hw : ts.all (writtenB 16) = true) (hc : cntTs ts ≤ 100000) (hX : LaidT w) :
    Calls Tryz.prog 74 #[.agg z.toArray] w fun e w' => e = .returned (sv (simpleS k text n ts)) ∧ Below w.heap.size w w' := by
  obtain ⟨A1, c1, A2, c2, A3, c3, xt, xk, rfl, s1, r1, s2, s3, r3⟩ := hr.parts
  clear hr s2 s3 r3
  obtain ⟨b, hB⟩ : ∃ b, ns.length = b := ⟨_, rfl⟩
  obtain ⟨d, hD⟩ : ∃ d, ks.length = d := ⟨_, rfl⟩
  rw [hB, hD]
  clear hB hD
  obtain ⟨W, hW⟩ : ∃ W, w.alloc (.cells #[.int .i64 k, sv text, .int .i64 n, .int .i64 li, .int .i64 co, .slice A1 ts.length c1, .slice A2 b c2, .slice A3 d c3] 26) = W := ⟨_, rfl⟩
  have hb1 : Below w.heap.size w W := by rw [← hW]; exact (Below.refl _ _).alloc (Nat.le_refl _) _
  have hbx : W.heap[w.heap.size]? = some (.cells #[.int .i64 k, sv text, .int .i64 n, .int .i64 li, .int .i64 co, .slice A1 ts.length c1, .slice A2 b c2, .slice A3 d c3] 26 (0, 0)) := by rw [← hW]; exact heap_alloc_new w _
  obtain ⟨_, g1, _, _, _, g5, _, _⟩ := t_row8 hbx
  have G1 := hid g1
  have G5 := hid g5
  have HB := hid hb1
  have HWE := hid hW
  have HX := hid (hX.below hb1)
  have HS1 := hid (And.intro (Sl.more (Sl.below s1 hb1) hb1.size) ((r1.keep hb1).more hb1.size))
  have hlt := (show_types hw hc).1
  have hla := (t_sl_len s1).2
  clear hb1 hbx hX s1 r1 g1 g5
  rcases hk with rfl | rfl | rfl | rfl | rfl | rfl | rfl
  · have HT : Hid (simpleS 0 text n ts = Lib.itoa n) := hid rfl
    rw [HT.out]
    have HS := hid (show_tab n W hn HX.out.1)
    rw [← hW] at HS
    clear hW
    generalize Lib.itoa n = s at *
    go_enter Tryz.func74, Tryz.ntmps74
    go_wp2_with fail
    refine HS.out.mono ?_
    rintro e w2 ⟨rfl, hb⟩
    rw [HWE.out] at hb
    go_wp2_with fail
    go_ret
    exact ⟨rfl, HB.out.trans (hb.mono HB.out.size)⟩
  · have HT : Hid (simpleS 1 text n ts = quoteW text) := hid rfl
    rw [HT.out]
    have HS := hid (quote_any W text (by omega))
    rw [← hW] at HS
    clear hW
    generalize quoteW text = s at *
    go_enter Tryz.func74, Tryz.ntmps74
    go_wp2_with fail
    refine HS.out.mono ?_
    rintro e w2 ⟨rfl, hb⟩
    rw [HWE.out] at hb
    go_wp2_with fail
    go_ret
    exact ⟨rfl, HB.out.trans (hb.mono HB.out.size)⟩
  · clear hW
    rcases h2 rfl with rfl | rfl
    · have HT : Hid (simpleS 2 text 0 ts = [102, 97, 108, 115, 101]) := hid rfl
      rw [HT.out]
      have hix : ∀ u, (Instr.index 139 (.agg #[.string ⟨#[102, 97, 108, 115, 101]⟩, .string ⟨#[116, 114, 117, 101]⟩]) (.int .i64 0)).run Tryz.prog u = .ok (.string ⟨#[102, 97, 108, 115, 101]⟩) u := fun _ => by kernel_rfl
      rw [← HWE.out] at HB
      go_enter Tryz.func74, Tryz.ntmps74
      go_wp2_with fail
      go_ret
      exact ⟨rfl, HB.out⟩
    · have HT : Hid (simpleS 2 text 1 ts = [116, 114, 117, 101]) := hid rfl
      rw [HT.out]
      have hix : ∀ u, (Instr.index 139 (.agg #[.string ⟨#[102, 97, 108, 115, 101]⟩, .string ⟨#[116, 114, 117, 101]⟩]) (.int .i64 1)).run Tryz.prog u = .ok (.string ⟨#[116, 114, 117, 101]⟩) u := fun _ => by kernel_rfl
      rw [← HWE.out] at HB
      go_enter Tryz.func74, Tryz.ntmps74
      go_wp2_with fail
      go_ret
      exact ⟨rfl, HB.out⟩
  · have HT : Hid (simpleS 3 text n ts = [110, 117, 108, 108]) := hid rfl
    rw [HT.out]
    rw [← HWE.out] at HB
    clear hW
    go_enter Tryz.func74, Tryz.ntmps74
    go_wp2_with fail
    go_ret
    exact ⟨rfl, HB.out⟩
  · have HT : Hid (simpleS 4 text n ts = text) := hid rfl
    rw [HT.out]
    rw [← HWE.out] at HB
    clear hW
    go_enter Tryz.func74, Tryz.ntmps74
    go_wp2_with fail
    go_ret
    exact ⟨rfl, HB.out⟩
  · have HT : Hid (simpleS 18 text n ts = [114, 101, 97, 100, 40, 41]) := hid rfl
    rw [HT.out]
    rw [← HWE.out] at HB
    clear hW
    go_enter Tryz.func74, Tryz.ntmps74
    go_wp2_with fail
    go_ret
    exact ⟨rfl, HB.out⟩
  · have HT : Hid (simpleS 19 text n ts = text ++ [91] ++ joinS [44, 32] (ts.map showT) ++ [93]) := hid (by show cat [text, [91], joinS [44, 32] (ts.map showT), [93]] = _; simp [cat])
    rw [HT.out]
    have HS := hid (fun (w1 : World) (h : Below W.heap.size W w1) => types_any w1 ts A1 c1 xt (Sl.more (Sl.below HS1.out.1 h) h.size) ((HS1.out.2.keep h).more h.size) hw hc)
    obtain ⟨a, ha⟩ : ∃ a, ts.length = a := ⟨_, rfl⟩
    rw [ha] at HS HWE G5 hW hla ⊢
    clear hw hc HT ha HS1
    generalize joinS [44, 32] (ts.map showT) = s at *
    generalize text = X at *
    have hsz := sv_size s
    have hsz1 := sv_size X
    have q0 : ¬ (9223372036854775807 < X.length + 1) := by omega
    have q1 : ¬ (9223372036854775807 < X.length + 1 + s.length) := by omega
    have q2 : ¬ (9223372036854775807 < X.length + 1 + s.length + 1) := by omega
    have HB0 : Hid (Below W.heap.size W W.drew) := hid (below_drawn W 1)
    clear hW
    go_enter Tryz.func74, Tryz.ntmps74
    go_wp2_with fail
    have hW := HWE.out
    rw [hW]
    clear hW
    refine wp_region_held_drew (S := fun w' => Below W.heap.size W w') (by kernel_rfl) HB0.out (fun _ => ?_)
    try simp only [Act.put, List.getElem_toArray, List.getElem_cons_zero, List.getElem_cons_succ, List.setIfInBounds_toArray, List.set_cons_zero, List.set_cons_succ]
    refine tk 0 (.pointer (some ⟨w.heap.size, 1, none⟩)) HB0.out ?_
    refine tkf 1 (sv X) (kp1 G1.out) HB0.out ?_
    refine tk 2 (.string ((⟨X.toArray⟩ : ByteArray) ++ ⟨#[91]⟩)) HB0.out ?_
    refine tk 3 (.pointer (some ⟨w.heap.size, 5, none⟩)) HB0.out ?_
    refine tkf 4 (.slice A1 a c1) (kp1 G5.out) HB0.out ?_
    refine wpAnyH_ready (rs := [5]) (by kernel_rfl) (by simp) ?_
    refine AllReadyH.cons rfl (fun K hK => ?_) (AllReadyH.nil)
    go_simp
    refine (HS.out _ HB0.out).mono ?_
    rintro e w2 ⟨rfl, hb⟩
    have HB2 := hid (HB0.out.trans (hb.mono HB0.out.size))
    clear hb
    refine hK.out _ _ HB2.out (fun _ => ?_)
    clear hK K
    try simp only [Act.put, List.getElem_toArray, List.getElem_cons_zero, List.getElem_cons_succ, List.setIfInBounds_toArray, List.set_cons_zero, List.set_cons_succ]
    refine tk 6 (.string ((⟨X.toArray⟩ : ByteArray) ++ ⟨#[91]⟩ ++ ⟨s.toArray⟩)) HB2.out ?_
    refine tk 7 (.string ((⟨X.toArray⟩ : ByteArray) ++ ⟨#[91]⟩ ++ ⟨s.toArray⟩ ++ ⟨#[93]⟩)) HB2.out ?_
    refine tk 8 (.string ((⟨X.toArray⟩ : ByteArray) ++ ⟨#[91]⟩ ++ ⟨s.toArray⟩ ++ ⟨#[93]⟩)) HB2.out ?_
    refine wpAnyH_done (by kernel_rfl) ?_ _
    go_wp2_with fail
    go_ret
    refine ⟨?_, HB.out.trans (HB2.out.mono HB.out.size)⟩
    have e : (⟨X.toArray⟩ : ByteArray) ++ ⟨([91] : Bt).toArray⟩ ++ ⟨s.toArray⟩ ++ ⟨([93] : Bt).toArray⟩ = ⟨(X ++ ([91] : Bt) ++ s ++ ([93] : Bt)).toArray⟩ := by
      rw [str_append, str_append, str_append]
    exact congrArg (fun b => Ending.returned (Value.string b)) e
end Go.Proofs.YtbpedjkebemhnaaGreatDoor
end
section
/- An expression as text: the contract. -/
set_option linter.unusedVariables false
namespace Go.Proofs.YtbpedjkebemhnaaGreatDoor
open Go.RowKit

/-- The contract of expr, of an expression of not too many. -/
def ExC (x : NoD) : Prop := ∀ (w : World) (z : List Value) (m : Nat), NoR w w.heap.size z x → okN x → nodeB m x = true → cntN x ≤ 100000 → LaidT w →
  Calls Tryz.prog 33 #[.agg z.toArray] w fun e w' => e = .returned (sv (exprS x)) ∧ Below w.heap.size w w'
end Go.Proofs.YtbpedjkebemhnaaGreatDoor
end
