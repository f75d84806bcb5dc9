/- YI -/
import Derived.Test.YtbpedjkebemhnaaGreatDoorSD09
import Derived.Test.YtbpedjkebemhnaaGreatDoorSD08
import Derived.Test.YtbpedjkebemhnaaGreatDoorSD16
set_option linter.unusedSimpArgs false
set_option linter.unusedVariables false
/- A module as text: tree.Print. -/
set_option linter.unusedVariables false
namespace Go.Proofs.YtbpedjkebemhnaaGreatDoor
open Go.RowKit

theorem joinS_all {l : List Bt} {K : Nat} (h : ∀ x ∈ l, x.length ≤ K) : (joinS [44, 32] l).length ≤ (K + 2) * l.length := by
  have h1 := joinS_len [44, 32] l
  have h2 : lenS l ≤ K * l.length := by
    clear h1
    induction l with
    | nil => simp [lenS]
    | cons x l ih =>
      have h3 := ih fun y hy => h y (by simp [hy])
      have h4 := h x (by simp)
      rw [lenS_cons, List.length_cons, Nat.mul_add]; omega
  rw [Nat.add_mul]
  simp only [List.length_cons, List.length_nil] at h1
  omega
theorem flatMap_all {α : Type} {f : α → Bt} {l : List α} {K : Nat} (h : ∀ x ∈ l, (f x).length ≤ K) : (l.flatMap f).length ≤ K * l.length := by
  induction l with
  | nil => simp
  | cons x l ih =>
    have h3 := ih fun y hy => h y (by simp [hy])
    have h4 := h x (by simp)
    rw [List.flatMap_cons, List.length_append, List.length_cons, Nat.mul_add]; omega
theorem flatMap_snoc {α : Type} (f : α → Bt) {l : List α} {i : Nat} (h : i < l.length) : (l.take (i + 1)).flatMap f = (l.take i).flatMap f ++ f l[i] := by
  rw [t_take h, List.flatMap_append]; simp
theorem flatMap_le {α : Type} (f : α → Bt) (l : List α) (i : Nat) : ((l.take i).flatMap f).length ≤ (l.flatMap f).length := by
  conv => rhs; rw [← List.take_append_drop i l, List.flatMap_append, List.length_append]
  omega
theorem declB_open {d : DeD} (h : declB d = true) : nameL d.name = true ∧ nameL d.param = true ∧ d.types.length = 2 ∧ nodeB 25 d.body = true ∧ (∀ v ∈ d.vars, nameL v.name = true) ∧ d.types.all (writtenB 16) = true ∧ (∀ v ∈ d.vars, writtenB 16 v.bound = true) := by
  unfold declB at h
  simp only [Bool.and_eq_true, beq_iff_eq] at h
  obtain ⟨⟨⟨⟨⟨⟨h1, h2⟩, h3⟩, h4⟩, h5⟩, h6⟩, h7⟩ := h
  rw [List.all_eq_true] at h5 h7
  exact ⟨h1, h2, h3, h4, h5, h6, h7⟩
/-- A function in a list: what its cells read as. -/
theorem decl_at2 {w : World} {B : Nat} {A : Option Addr} {n c : Nat} {xs : List Value} {l : List DeD} (hs : Sl w B 15 (.slice A n c) xs) (hr : TRow (DeR w B) 15 xs l) {i : Nat} (hi : i < l.length) (hn : n = l.length) :
    ∃ b o A1 c1 A2 c2 kk s n1 l1 cc A3 n3 c3 A4 n4 c4 A5 n5 c5 xv xt, A = some ⟨b, o, none⟩ ∧ Sl w B 5 (.slice A1 l[i].vars.length c1) xv ∧ TRow (VaR w B) 5 xv l[i].vars ∧ Sl w B 4 (.slice A2 l[i].types.length c2) xt ∧ TysR w B xt l[i].types ∧ NoR w B [.int .i64 kk, .string s, .int .i64 n1, .int .i64 l1, .int .i64 cc, .slice A3 n3 c3, .slice A4 n4 c4, .slice A5 n5 c5] l[i].body ∧ w.cell? ⟨b, o + i * 15, none⟩ = some (sv l[i].name) ∧ w.cell? ⟨b, o + i * 15 + 1, none⟩ = some (.bool l[i].exp) ∧ w.cell? ⟨b, o + i * 15 + 2, none⟩ = some (.slice A1 l[i].vars.length c1) ∧ w.cell? ⟨b, o + i * 15 + 3, none⟩ = some (sv l[i].param) ∧ w.cell? ⟨b, o + i * 15 + 4, none⟩ = some (.slice A2 l[i].types.length c2) ∧ w.cell? ⟨b, o + i * 15 + 5, none⟩ = some (.int .i64 kk) ∧ w.cell? ⟨b, o + i * 15 + 6, none⟩ = some (.string s) ∧ w.cell? ⟨b, o + i * 15 + 7, none⟩ = some (.int .i64 n1) ∧ w.cell? ⟨b, o + i * 15 + 8, none⟩ = some (.int .i64 l1) ∧ w.cell? ⟨b, o + i * 15 + 9, none⟩ = some (.int .i64 cc) ∧ w.cell? ⟨b, o + i * 15 + 10, none⟩ = some (.slice A3 n3 c3) ∧ w.cell? ⟨b, o + i * 15 + 11, none⟩ = some (.slice A4 n4 c4) ∧ w.cell? ⟨b, o + i * 15 + 12, none⟩ = some (.slice A5 n5 c5) ∧ w.cell? ⟨b, o + i * 15 + 13, none⟩ = some (.int .i64 l[i].line) ∧ w.cell? ⟨b, o + i * 15 + 14, none⟩ = some (.int .i64 l[i].col) := by
  obtain ⟨b, o, z, hA, hb, hz, hc⟩ := row_at hs hr (by omega) hi hn
  obtain ⟨A1, c1, A2, c2, k, s, n, l1, c, A3, n3, c3, A4, n4, c4, A5, n5, c5, xv, xt, rfl, h1, h2, h3, h4, h5⟩ := hz.parts
  exact ⟨b, o, A1, c1, A2, c2, k, s, n, l1, c, A3, n3, c3, A4, n4, c4, A5, n5, c5, xv, xt, hA, h1, h2, h3, h4, h5, by simpa using hc 0 _ rfl, hc 1 _ rfl, hc 2 _ rfl, hc 3 _ rfl, hc 4 _ rfl, hc 5 _ rfl, hc 6 _ rfl, hc 7 _ rfl, hc 8 _ rfl, hc 9 _ rfl, hc 10 _ rfl, hc 11 _ rfl, hc 12 _ rfl, hc 13 _ rfl, hc 14 _ rfl⟩
theorem impB_open {i : ImD} (h : impB i = true) : nameL i.from_ = true ∧ (∀ n ∈ i.names, nameL n = true) := by
  rw [impB_eq] at h
  simp only [Bool.and_eq_true] at h
  exact ⟨h.1.1, List.all_eq_true.1 h.2⟩
theorem imp_len {i : ImD} (h : impB i = true) (hn : i.names.length ≤ 100) : (impS i).length ≤ 10000 := by
  obtain ⟨h1, h2⟩ := impB_open h
  have h3 := nameL_len h1
  have h4 := joinS_all (l := i.names) (K := 32) fun x hx => nameL_len (h2 x hx)
  unfold impS
  simp only [cat, List.flatMap_cons, List.flatMap_nil, id_eq, List.length_append, List.length_cons, List.length_nil]
  omega
theorem varS_len {v : VaD} (h1 : nameL v.name = true) (h2 : writtenB 16 v.bound = true) (h3 : cntT v.bound ≤ 100000) : (varS v).length ≤ 8000100 := by
  have h4 := nameL_len h1
  have h5 := show_len v.bound 16 h2
  unfold varS
  split
  · omega
  · simp only [List.length_append, List.length_cons, List.length_nil]; omega
theorem vars_len {l : List VaD} (h1 : ∀ v ∈ l, nameL v.name = true) (h2 : ∀ v ∈ l, writtenB 16 v.bound = true) (h3 : ∀ v ∈ l, cntT v.bound ≤ 100000) (hn : l.length ≤ 100) : (joinS [44, 32] (l.map varS)).length ≤ 810000000 ∧ (varsS l).length ≤ 810000002 := by
  have h4 := joinS_all (l := l.map varS) (K := 8000100) fun x hx => by
    obtain ⟨v, hv, rfl⟩ := List.mem_map.1 hx
    exact varS_len (h1 v hv) (h2 v hv) (h3 v hv)
  rw [List.length_map] at h4
  refine ⟨by omega, ?_⟩
  unfold varsS
  split
  · simp
  · simp only [List.length_append, List.length_cons, List.length_nil]; omega
theorem funS_len {m : MoD} (hS : SmM m) {d : DeD} (hd : d ∈ m.decls) (h : declB d = true) : (funS d).length ≤ 1000000000 ∧ (declS d).length ≤ 1000000010 ∧ (joinS [44, 32] (d.vars.map varS)).length ≤ 810000000 := by
  obtain ⟨h1, h2, h3, h4, h5, h6, h7⟩ := declB_open h
  have a1 := nameL_len h1
  have a2 := nameL_len h2
  have a3 := note_two d.types 16 h6
  have a4 := expr_len d.body 25 h4
  have a5 := vars_len h5 h7 (hS.bounds d hd) (hS.vars d hd)
  have a6 := hS.sorts d hd
  have a7 := hS.body d hd
  have hf : (funS d).length ≤ 1000000000 := by
    unfold funS
    simp only [cat, List.flatMap_cons, List.flatMap_nil, id_eq, List.length_append, List.length_cons, List.length_nil]
    omega
  refine ⟨hf, ?_, a5.1⟩
  unfold declS expS
  split <;> simp only [List.length_append, List.length_cons, List.length_nil] <;> omega
set_option maxRecDepth 100000 in
set_option maxHeartbeats 8000000 in
theorem tprint_any (m : MoD) (w : World) (z : List Value) (hr : MoR w w.heap.size z m) (hok : okM m) (hX : LaidT w) (hS : SmM m) :
    Calls Tryz.prog 23 #[.agg z.toArray] w fun e w' => e = .returned (sv (printT m)) ∧ Below w.heap.size w w' := by
  have hr0 := hr
  obtain ⟨A1, c1, A2, c2, xi, xd, rfl, s1, r1, s2, r2⟩ := hr.parts
  have l1 := (t_sl_len s1).2
  have l2 := (t_sl_len s2).2
  obtain ⟨W, hW⟩ : ∃ W, w.alloc (.cells #[.slice A1 m.imps.length c1, .slice A2 m.decls.length c2] 39) = W := ⟨_, rfl⟩
  have hb1 : Below w.heap.size w W := by rw [← hW]; exact (Below.refl _ _).alloc (Nat.le_refl _) _
  have hbx : W.heap[w.heap.size]? = some (.cells #[.slice A1 m.imps.length c1, .slice A2 m.decls.length c2] 39 (0, 0)) := by rw [← hW]; exact heap_alloc_new w _
  have HM := hid (tmay_any m W _ (hr0.far (Nat.le_refl _) hb1) hok (hX.below hb1) hS)
  have HB1 := hid hb1
  have HBX := hid hbx
  have HII := hid (And.intro s1 r1)
  have HDD := hid (And.intro s2 r2)
  have HX := hid hX
  have HOK := hid hok
  have HSM := hid hS
  have HM0 : Hid (m.imps.length ≤ 100 ∧ m.decls.length ≤ 100) := hid ⟨hS.imps, hS.decls⟩
  have HPT : Hid (printT m = if mayB m then printS m else []) := hid rfl
  obtain ⟨g0, g1⟩ := t_row2 hbx
  rw [HPT.out]
  have HIA : Hid (mayB m = true → (∀ i ∈ m.imps, impB i = true) ∧ (∀ d ∈ m.decls, declB d = true)) := hid (fun h => by
    unfold mayB at h
    rw [Bool.and_eq_true, List.all_eq_true, List.all_eq_true] at h
    exact h)
  have hps : Hid (printS m = m.imps.flatMap impS ++ m.decls.flatMap declS) := hid rfl
  clear hr hr0 hok hX hS hb1 hbx s1 r1 s2 r2 HPT
  generalize mayB m = q at *
  rw [hps.out]
  obtain ⟨is, his⟩ : ∃ x, m.imps = x := ⟨_, rfl⟩
  obtain ⟨ds, hds⟩ : ∃ x, m.decls = x := ⟨_, rfl⟩
  have HIS := hid his
  have HDS := hid hds
  rw [his, hds] at HIA HM0
  rw [his] at HII HBX hW g0 l1 HM
  rw [hds] at HDD HBX hW g1 l2 HM
  rw [his, hds]
  obtain ⟨a, hA⟩ : ∃ a, is.length = a := ⟨_, rfl⟩
  obtain ⟨d, hD⟩ : ∃ d, ds.length = d := ⟨_, rfl⟩
  rw [hA] at HII HBX hW g0 l1 HM0 HM
  rw [hD] at HDD HBX hW g1 l2 HM0 HM
  rw [hA, hD]
  have HA := hid hA
  have HD := hid hD
  clear his hds hA hD hps
  go_enter Tryz.func23, Tryz.ntmps23
  go_wp2_with fail
  clear g0 g1
  refine HM.out.mono ?_
  rintro e w2 ⟨rfl, hb⟩
  have HB2 := hid hb
  obtain ⟨g0, g1⟩ := t_row2 ((hb.block _ (block_lt HBX.out)).trans HBX.out)
  cases q with
  | false =>
    clear hb
    go_wp2_with fail
    go_ret
    exact ⟨rfl, HB1.out.trans (HB2.out.mono HB1.out.size)⟩
  | true =>
  obtain ⟨hia, hda⟩ := HIA.out rfl
  have hm0 := HM0.out
  have HL1 : Hid ((is.flatMap impS).length ≤ 1000000) := hid (by
    have := flatMap_all (f := impS) (l := is) (K := 10000) fun i hi => imp_len (hia i hi) (HSM.out.names i (by rw [HIS.out]; exact hi))
    rw [HA.out] at this
    omega)
  have HL2 : Hid ((ds.flatMap declS).length ≤ 200000000000) := hid (by
    have := flatMap_all (f := declS) (l := ds) (K := 1000000010) fun i hi => (funS_len HSM.out (by rw [HDS.out]; exact hi) (hda i hi)).2.1
    rw [HD.out] at this
    omega)
  have HIA2 := hid hia
  have HDA2 := hid hda
  clear hia hda HIA
  obtain ⟨w3, hw3⟩ : ∃ w3, w2.alloc (.cells #[.pointer none, .slice none 0 0] 76) = w3 := ⟨_, rfl⟩
  have hb3 : Below w2.heap.size w2 w3 := by rw [← hw3]; exact (Below.refl _ _).alloc (Nat.le_refl _) _
  have hw2 : w.heap.size ≤ w2.heap.size := Nat.le_trans HB1.out.size HB2.out.size
  have HBD : Hid (BdT w.heap.size w2.heap.size [] w3) := hid (by rw [← hw3]; exact BdT.new w2 _ hw2)
  have HB3 : Hid (Below w.heap.size w w3) := hid (HB1.out.trans ((HB2.out.trans (hb3.mono HB2.out.size)).mono HB1.out.size))
  have HBX3 : Hid (w3.heap[w.heap.size]? = some (.cells #[.slice A1 a c1, .slice A2 d c2] 39 (0, 0))) := hid (((HB2.out.trans (hb3.mono HB2.out.size)).block _ (block_lt HBX.out)).trans HBX.out)
  obtain ⟨h0, h1⟩ := t_row2 HBX3.out
  obtain ⟨bB, hbB⟩ : ∃ bB, w2.heap.size = bB := ⟨_, rfl⟩
  rw [hbB] at HBD hw2
  clear hb hb3 hW
  go_wp2_with fail
  clear g0 g1 h0 h1 hw3 hbB
  go_loopw [14] (fun v14 wr => ∃ i : Nat, v14 = .int .i64 i ∧ i ≤ a ∧ BdT w.heap.size bB ((is.take i).flatMap impS) wr ∧ wr.heap[w.heap.size]? = some (.cells #[.slice A1 a c1, .slice A2 d c2] 39 (0, 0)) ∧ Below w.heap.size w wr) (fun v14 _ => a - (intOf v14).toNat)
  case atStart => exact ⟨0, rfl, by omega, HBD.out, HBX3.out, HB3.out⟩
  case round =>
    obtain ⟨i, rfl, hi, hbd, hbx, hbr⟩ := hrel
    have HBDI := hid hbd
    have HBXI := hid hbx
    have HBR := hid hbr
    clear hbd
    by_cases hlt : i < a
    · have hil : i < is.length := by rw [HA.out]; exact hlt
      obtain ⟨b2, o2, A6, c6, hA6, hn6, d0, d1, d2, d3⟩ := imp_at (Sl.below HII.out.1 hbr) (HII.out.2.imp fun _ _ h => h.keep hbr) hil HA.out.symm
      have hfl := flatMap_snoc impS hil
      have hll := flatMap_le impS is (i + 1)
      have hl1 := HL1.out
      have HIM : Hid (impS is[i] = ([105, 109, 112, 111, 114, 116, 32] : Bt) ++ is[i].from_ ++ ([58, 32] : Bt) ++ joinS [44, 32] is[i].names ++ ([59, 10] : Bt)) := hid (by simp [impS, cat])
      have hnl : ∀ x ∈ is[i].names, x.length ≤ 32 := fun x hx => nameL_len ((impB_open (HIA2.out _ (List.getElem_mem hil))).2 x hx)
      have hjl := joinS_all hnl
      have hn100 := HSM.out.names is[i] (by rw [HIS.out]; exact List.getElem_mem hil)
      have HJ := hid (fun (w1 : World) (h : Below w.heap.size wr w1) => join_any w1 _ is[i].names [44, 32] (Ss.more (Ss.below hn6 h) (Nat.le_trans hbr.size h.size)) (by omega) (by omega))
      rw [HIM.out] at hfl
      rw [hfl] at hll
      have HFL := hid hfl
      clear hfl hnl hn6
      generalize joinS [44, 32] is[i].names = J at *
      generalize is[i].names.length = k at *
      generalize is[i].from_ = X at *
      generalize is[i].line = li at *
      generalize is[i].col = co at *
      obtain ⟨wA, hwA⟩ : ∃ wA, wr.alloc (.cells #[sv X, .slice A6 k c6, .int .i64 li, .int .i64 co] 62) = wA := ⟨_, rfl⟩
      have hbA : Below wr.heap.size wr wA := by rw [← hwA]; exact (Below.refl _ _).alloc (Nat.le_refl _) _
      have hrow : wA.heap[wr.heap.size]? = some (.cells #[sv X, .slice A6 k c6, .int .i64 li, .int .i64 co] 62 (0, 0)) := by rw [← hwA]; exact heap_alloc_new wr _
      have hbD : Below wr.heap.size wr wA.drew := hbA.trans ((below_drawn wA 1).mono hbA.size)
      have HS0 : Hid (wA.drew.heap[wr.heap.size]? = some (.cells #[sv X, .slice A6 k c6, .int .i64 li, .int .i64 co] 62 (0, 0)) ∧ Below w.heap.size wr wA.drew) := hid ⟨hrow, hbD.mono hbr.size⟩
      have HBD0 := hid (HBDI.out.below hbD)
      have HBZ0 : Hid (wA.drew.heap[w.heap.size]? = some (.cells #[.slice A1 a c1, .slice A2 d c2] 39 (0, 0))) := hid ((hbD.block _ (block_lt HBXI.out)).trans HBXI.out)
      have HSZ := hid hbr.size
      generalize hT : (is.take i).flatMap impS = T at *
      have hz0 := sv_size X
      have hz1 := sv_size J
      simp only [List.length_append, List.length_cons, List.length_nil] at hll
      have q0 : ¬ (9223372036854775807 < 7 + X.length) := by omega
      have q1 : ¬ (9223372036854775807 < 7 + X.length + 2) := by omega
      have q2 : ¬ (9223372036854775807 < 7 + X.length + 2 + J.length) := by omega
      have q3 : ¬ (9223372036854775807 < 7 + X.length + 2 + J.length + 2) := by omega
      clear hbA hrow hbD hbr hjl hn100 hT
      subst hA6
      go_wp2_with fail
      clear hwA d0 d1 d2 d3
      refine wp_region_held_drew (S := fun w' => w'.heap[wr.heap.size]? = some (.cells #[sv X, .slice A6 k c6, .int .i64 li, .int .i64 co] 62 (0, 0)) ∧ Below w.heap.size wr w') (by kernel_rfl) HS0.out (fun _ => ?_)
      try simp only [Act.put, List.getElem_toArray, List.getElem_cons_zero, List.getElem_cons_succ, List.setIfInBounds_toArray, List.set_cons_zero, List.set_cons_succ]
      refine tk 0 (.pointer (some ⟨wr.heap.size, 0, none⟩)) HS0.out ?_
      refine tkf 1 (sv X) (fun w' h => row_cell (j := 0) h.1 rfl) HS0.out ?_
      refine tk 2 (.string ((⟨#[105, 109, 112, 111, 114, 116, 32]⟩ : ByteArray) ++ ⟨X.toArray⟩)) HS0.out ?_
      refine tk 3 (.string ((⟨#[105, 109, 112, 111, 114, 116, 32]⟩ : ByteArray) ++ ⟨X.toArray⟩ ++ ⟨#[58, 32]⟩)) HS0.out ?_
      refine tk 4 (.pointer (some ⟨wr.heap.size, 1, none⟩)) HS0.out ?_
      refine tkf 5 (.slice A6 k c6) (fun w' h => row_cell (j := 1) h.1 rfl) HS0.out ?_
      refine wpAnyH_ready (rs := [6]) (by kernel_rfl) (by simp) ?_
      refine AllReadyH.cons rfl (fun K hK => ?_) (AllReadyH.nil)
      go_simp
      refine (HJ.out _ HS0.out.2).mono ?_
      rintro e w5 ⟨rfl, hb⟩
      have HS1 := hid (And.intro ((hb.block _ (block_lt HS0.out.1)).trans HS0.out.1) (HS0.out.2.trans (hb.mono (Nat.le_trans HSZ.out HS0.out.2.size))))
      have HBD1 := hid (HBD0.out.below hb)
      have HBZ1 := hid ((hb.block _ (block_lt HBZ0.out)).trans HBZ0.out)
      clear hb
      refine hK.out _ _ HS1.out (fun _ => ?_)
      clear hK K
      try simp only [Act.put, List.getElem_toArray, List.getElem_cons_zero, List.getElem_cons_succ, List.setIfInBounds_toArray, List.set_cons_zero, List.set_cons_succ]
      refine tk 7 (.string ((⟨#[105, 109, 112, 111, 114, 116, 32]⟩ : ByteArray) ++ ⟨X.toArray⟩ ++ ⟨#[58, 32]⟩ ++ ⟨J.toArray⟩)) HS1.out ?_
      refine tk 8 (.string ((⟨#[105, 109, 112, 111, 114, 116, 32]⟩ : ByteArray) ++ ⟨X.toArray⟩ ++ ⟨#[58, 32]⟩ ++ ⟨J.toArray⟩ ++ ⟨#[59, 10]⟩)) HS1.out ?_
      refine wpAnyH_ready (rs := [9]) (by kernel_rfl) (by simp) ?_
      refine AllReadyH.cons rfl (fun K hK => ?_) (AllReadyH.nil)
      go_simp
      have ee : (⟨([105, 109, 112, 111, 114, 116, 32] : Bt).toArray⟩ : ByteArray) ++ ⟨X.toArray⟩ ++ ⟨([58, 32] : Bt).toArray⟩ ++ ⟨J.toArray⟩ ++ ⟨([59, 10] : Bt).toArray⟩ = ⟨(([105, 109, 112, 111, 114, 116, 32] : Bt) ++ X ++ ([58, 32] : Bt) ++ J ++ ([59, 10] : Bt)).toArray⟩ := by
        rw [str_append, str_append, str_append, str_append]
      rw [ee]
      refine (bd_write w.heap.size bB T (([105, 109, 112, 111, 114, 116, 32] : Bt) ++ X ++ ([58, 32] : Bt) ++ J ++ ([59, 10] : Bt)) _ HBD1.out (by simp only [List.length_append, List.length_cons, List.length_nil]; omega) (Nat.le_trans HSZ.out HS1.out.2.size)).mono ?_
      rintro e w6 ⟨⟨v6, rfl⟩, hbd6, hb6, hk6⟩
      have HS2 := hid (And.intro (hk6 _ _ _ _ HS1.out.1 (by decide) (by decide)) (HS1.out.2.trans hb6))
      have HBD2 := hid hbd6
      have HBZ2 := hid (hk6 _ _ _ _ HBZ1.out (by decide) (by decide))
      clear hbd6 hb6 hk6 ee
      refine hK.out _ _ HS2.out (fun _ => ?_)
      clear hK K
      try simp only [Act.put, List.getElem_toArray, List.getElem_cons_zero, List.getElem_cons_succ, List.setIfInBounds_toArray, List.set_cons_zero, List.set_cons_succ]
      refine wpAnyH_done (by kernel_rfl) ?_ _
      go_wp2_with fail
      go_roundw
      case rel => exact ⟨i + 1, rfl, by omega, by rw [HFL.out]; exact HBD2.out, HBZ2.out, HBR.out.trans HS2.out.2⟩
      case measure => simp [intOf]; omega
    · obtain rfl : i = a := by omega
      obtain ⟨h0, h1⟩ := t_row2 hbx
      have HBDJ : Hid (BdT w.heap.size bB (is.flatMap impS) wr) := hid (by have h := HBDI.out; rw [List.take_of_length_le (by rw [HA.out]; omega)] at h; exact h)
      clear hbr hbx hlt HBDI
      go_wp2_with fail
      clear h0 h1
      go_loopw [32] (fun v32 wr => ∃ j : Nat, v32 = .int .i64 j ∧ j ≤ d ∧ BdT w.heap.size bB (is.flatMap impS ++ (ds.take j).flatMap declS) wr ∧ Below w.heap.size w wr) (fun v32 _ => d - (intOf v32).toNat)
      case atStart => exact ⟨0, rfl, by omega, by simpa using HBDJ.out, HBR.out⟩
      case round =>
        obtain ⟨j, rfl, hj, hbd, hbr⟩ := hrel
        have HBDI := hid hbd
        have HBR2 := hid hbr
        clear hbd
        by_cases hlt : j < d
        · have hjl : j < ds.length := by rw [HD.out]; exact hlt
          obtain ⟨b2, o2, A6, c6, A7, c7, k, s, n, l, c, A3, n3, c3, A4, n4, c4, A5, n5, c5, xv, xt, hA6, t1, t2, t3, t4, t5, dd0, dd1, dd2, dd3, dd4, dd5, dd6, dd7, dd8, dd9, dd10, dd11, dd12, dd13, dd14⟩ := decl_at2 (Sl.below HDD.out.1 hbr) (HDD.out.2.imp fun _ _ h => h.keep hbr) hjl HD.out.symm
          have hfl := flatMap_snoc declS hjl
          have hll := flatMap_le declS ds (j + 1)
          have hl1 := HL1.out
          have hl2 := HL2.out
          have hdb := HDA2.out ds[j] (List.getElem_mem hjl)
          obtain ⟨e1, e2, e3, e4, e5, e6, e7⟩ := declB_open hdb
          have hmem : ds[j] ∈ m.decls := by rw [HDS.out]; exact List.getElem_mem hjl
          obtain ⟨hf1, hf2, hf3⟩ := funS_len HSM.out hmem hdb
          have hfs : funS ds[j] = ([102, 110, 32] : Bt) ++ ds[j].name ++ varsS ds[j].vars ++ ([40] : Bt) ++ ds[j].param ++ noteS ds[j].types 0 ++ ([41] : Bt) ++ noteS ds[j].types 1 ++ ([32, 61, 32] : Bt) ++ exprS ds[j].body ++ ([59, 10] : Bt) := by simp [funS, cat]
          have hds : declS ds[j] = expS ds[j].exp ++ funS ds[j] := rfl
          have hv100 := HSM.out.vars _ hmem
          have HVA := hid (fun (w1 : World) (h : Below w.heap.size wr w1) => vars_any w1 ds[j].vars A6 c6 xv (Sl.more (Sl.below t1 h) (Nat.le_trans hbr.size h.size)) (t2.imp fun _ _ h2 => (h2.keep h).more (Nat.le_trans hbr.size h.size)) (fun v hv => ⟨e7 v hv, HSM.out.bounds _ hmem v hv, nameL_len (e5 v hv)⟩) (by omega) (by omega))
          have HN0 := hid (fun (w1 : World) (h : Below w.heap.size wr w1) => note_any w1 ds[j].types A7 c7 xt (Sl.more (Sl.below t3 h) (Nat.le_trans hbr.size h.size)) ((t4.keep h).more (Nat.le_trans hbr.size h.size)) e6 (HSM.out.sorts _ hmem) 0)
          have HN1 := hid (fun (w1 : World) (h : Below w.heap.size wr w1) => note_any w1 ds[j].types A7 c7 xt (Sl.more (Sl.below t3 h) (Nat.le_trans hbr.size h.size)) ((t4.keep h).more (Nat.le_trans hbr.size h.size)) e6 (HSM.out.sorts _ hmem) 1)
          have HEX := hid (fun (w1 : World) (h : Below w.heap.size wr w1) => expr_all ds[j].body w1 _ 25 ((t5.keep h).more (Nat.le_trans hbr.size h.size)) (HOK.out.2 _ hmem).2.2.2.2.1 e4 (HSM.out.body _ hmem) (HX.out.below (hbr.trans h)))
          have HSZ := hid hbr.size
          have HFL : Hid (is.flatMap impS ++ (ds.take (j + 1)).flatMap declS = (is.flatMap impS ++ (ds.take j).flatMap declS) ++ (expS ds[j].exp ++ funS ds[j])) := hid (by rw [hfl, hds, List.append_assoc])
          rw [hfl, hds, List.length_append, List.length_append] at hll
          have htl : (is.flatMap impS ++ (ds.take j).flatMap declS).length + (expS ds[j].exp).length + (funS ds[j]).length ≤ 300000000000 := by
            rw [List.length_append]; omega
          rw [hfs] at HFL htl
          clear hf1 hf2 hf3 hll hfl hl1 hl2 hds hfs hdb e1 e2 e4 e5 e6 e7 t1 t2 t3 t4 t5 hv100 hmem
          generalize hTT : is.flatMap impS ++ (ds.take j).flatMap declS = T at *
          generalize varsS ds[j].vars = VS at *
          generalize noteS ds[j].types 0 = N0 at *
          generalize noteS ds[j].types 1 = N1 at *
          generalize exprS ds[j].body = E at *
          generalize ds[j].types.length = nt at *
          generalize ds[j].vars.length = nv at *
          generalize ds[j].name = NM at *
          generalize ds[j].param = PM at *
          generalize ds[j].exp = ex at *
          generalize ds[j].line = dl at *
          generalize ds[j].col = dc at *
          clear hTT e3
          have hz0 := sv_size NM
          have hz1 := sv_size PM
          have hz2 := sv_size VS
          have hz3 := sv_size N0
          have hz4 := sv_size N1
          have hz5 := sv_size E
          have htl2 := htl
          simp only [List.length_append, List.length_cons, List.length_nil] at htl2
          obtain ⟨wA, hwA⟩ : ∃ wA, wr.alloc (.cells #[sv NM, .bool ex, .slice A6 nv c6, sv PM, .slice A7 nt c7, .int .i64 k, .string s, .int .i64 n, .int .i64 l, .int .i64 c, .slice A3 n3 c3, .slice A4 n4 c4, .slice A5 n5 c5, .int .i64 dl, .int .i64 dc] 65) = wA := ⟨_, rfl⟩
          have hbA : Below wr.heap.size wr wA := by rw [← hwA]; exact (Below.refl _ _).alloc (Nat.le_refl _) _
          have hrow : wA.heap[wr.heap.size]? = some (.cells #[sv NM, .bool ex, .slice A6 nv c6, sv PM, .slice A7 nt c7, .int .i64 k, .string s, .int .i64 n, .int .i64 l, .int .i64 c, .slice A3 n3 c3, .slice A4 n4 c4, .slice A5 n5 c5, .int .i64 dl, .int .i64 dc] 65 (0, 0)) := by rw [← hwA]; exact heap_alloc_new wr _
          have HSA : Hid (wA.heap[wr.heap.size]? = some (.cells #[sv NM, .bool ex, .slice A6 nv c6, sv PM, .slice A7 nt c7, .int .i64 k, .string s, .int .i64 n, .int .i64 l, .int .i64 c, .slice A3 n3 c3, .slice A4 n4 c4, .slice A5 n5 c5, .int .i64 dl, .int .i64 dc] 65 (0, 0)) ∧ Below w.heap.size wr wA) := hid ⟨hrow, hbA.mono hbr.size⟩
          have HBDA := hid (HBDI.out.below hbA)
          have f1 : wA.cell? ⟨wr.heap.size, 1, none⟩ = some (.bool ex) := row_cell (j := 1) hrow rfl
          have q0 : ¬ (9223372036854775807 < 3 + NM.length) := by omega
          have q1 : ¬ (9223372036854775807 < 3 + NM.length + VS.length) := by omega
          have q2 : ¬ (9223372036854775807 < 3 + NM.length + VS.length + 1) := by omega
          have q3 : ¬ (9223372036854775807 < 3 + NM.length + VS.length + 1 + PM.length) := by omega
          have q4 : ¬ (9223372036854775807 < 3 + NM.length + VS.length + 1 + PM.length + N0.length) := by omega
          have q5 : ¬ (9223372036854775807 < 3 + NM.length + VS.length + 1 + PM.length + N0.length + 1) := by omega
          have q6 : ¬ (9223372036854775807 < 3 + NM.length + VS.length + 1 + PM.length + N0.length + 1 + N1.length) := by omega
          have q7 : ¬ (9223372036854775807 < 3 + NM.length + VS.length + 1 + PM.length + N0.length + 1 + N1.length + 3) := by omega
          have q8 : ¬ (9223372036854775807 < 3 + NM.length + VS.length + 1 + PM.length + N0.length + 1 + N1.length + 3 + E.length) := by omega
          have q9 : ¬ (9223372036854775807 < 3 + NM.length + VS.length + 1 + PM.length + N0.length + 1 + N1.length + 3 + E.length + 2) := by omega
          clear hbA hrow hbr htl
          subst hA6
          cases ex with
          | true =>
            go_wp2_with fail
            clear hwA f1 dd0 dd1 dd2 dd3 dd4 dd5 dd6 dd7 dd8 dd9 dd10 dd11 dd12 dd13 dd14
            refine (bd_write w.heap.size bB T [101, 120, 112, 111, 114, 116, 32] _ HBDA.out (by simp only [List.length_cons, List.length_nil]; omega) (Nat.le_trans HSZ.out HSA.out.2.size)).mono ?_
            rintro e w4 ⟨⟨v4, rfl⟩, hbd4, hb4, hk4⟩
            have HS0 : Hid (w4.drew.heap[wr.heap.size]? = some (.cells #[sv NM, .bool true, .slice A6 nv c6, sv PM, .slice A7 nt c7, .int .i64 k, .string s, .int .i64 n, .int .i64 l, .int .i64 c, .slice A3 n3 c3, .slice A4 n4 c4, .slice A5 n5 c5, .int .i64 dl, .int .i64 dc] 65 (0, 0)) ∧ Below w.heap.size wr w4.drew) := hid ⟨hk4 _ _ _ _ HSA.out.1 (by decide) (by decide), (HSA.out.2.trans hb4).trans (below_drawn w4 1)⟩
            have HBD0 : Hid (BdT w.heap.size bB (T ++ [101, 120, 112, 111, 114, 116, 32]) w4.drew) := hid (hbd4.below (below_drawn w4 1))
            clear hbd4 hb4 hk4
            go_wp2_with fail
            refine wp_region_held_drew (S := fun w' => w'.heap[wr.heap.size]? = some (.cells #[sv NM, .bool true, .slice A6 nv c6, sv PM, .slice A7 nt c7, .int .i64 k, .string s, .int .i64 n, .int .i64 l, .int .i64 c, .slice A3 n3 c3, .slice A4 n4 c4, .slice A5 n5 c5, .int .i64 dl, .int .i64 dc] 65 (0, 0)) ∧ Below w.heap.size wr w') (by kernel_rfl) HS0.out (fun _ => ?_)
            try simp only [Act.put, List.getElem_toArray, List.getElem_cons_zero, List.getElem_cons_succ, List.setIfInBounds_toArray, List.set_cons_zero, List.set_cons_succ]
            refine tk 0 (.pointer (some ⟨wr.heap.size, 0, none⟩)) HS0.out ?_
            refine tkf 1 (sv NM) (fun w' h => row_cell (j := 0) h.1 rfl) HS0.out ?_
            refine tk 2 (.string ((⟨#[102, 110, 32]⟩ : ByteArray) ++ ⟨NM.toArray⟩)) HS0.out ?_
            refine tk 3 (.pointer (some ⟨wr.heap.size, 2, none⟩)) HS0.out ?_
            refine tkf 4 (.slice A6 nv c6) (fun w' h => row_cell (j := 2) h.1 rfl) HS0.out ?_
            refine tk 8 (.pointer (some ⟨wr.heap.size, 3, none⟩)) HS0.out ?_
            refine tkf 9 (sv PM) (fun w' h => row_cell (j := 3) h.1 rfl) HS0.out ?_
            refine tk 11 (.pointer (some ⟨wr.heap.size, 4, none⟩)) HS0.out ?_
            refine tkf 12 (.slice A7 nt c7) (fun w' h => row_cell (j := 4) h.1 rfl) HS0.out ?_
            refine tk 16 (.pointer (some ⟨wr.heap.size, 4, none⟩)) HS0.out ?_
            refine tkf 17 (.slice A7 nt c7) (fun w' h => row_cell (j := 4) h.1 rfl) HS0.out ?_
            refine tk 21 (.pointer (some ⟨wr.heap.size, 5, none⟩)) HS0.out ?_
            refine tkf 22 (.agg #[.int .i64 k, .string s, .int .i64 n, .int .i64 l, .int .i64 c, .slice A3 n3 c3, .slice A4 n4 c4, .slice A5 n5 c5]) (fun w' h => And.intro (row_cell (j := 5) h.1 rfl) (And.intro (row_cell (j := 6) h.1 rfl) (And.intro (row_cell (j := 7) h.1 rfl) (And.intro (row_cell (j := 8) h.1 rfl) (And.intro (row_cell (j := 9) h.1 rfl) (And.intro (row_cell (j := 10) h.1 rfl) (And.intro (row_cell (j := 11) h.1 rfl) (row_cell (j := 12) h.1 rfl)))))))) HS0.out ?_
            refine wpAnyH_ready (rs := [5]) (by kernel_rfl) (by simp) ?_
            refine AllReadyH.cons rfl (fun K hK => ?_) (AllReadyH.nil)
            go_simp
            refine (HVA.out _ HS0.out.2).mono ?_
            rintro e wc0 ⟨rfl, hb⟩
            have HS1 := hid (And.intro ((hb.block _ (block_lt HS0.out.1)).trans HS0.out.1) (HS0.out.2.trans (hb.mono (Nat.le_trans HSZ.out HS0.out.2.size))))
            have HBD1 := hid (HBD0.out.below hb)
            clear hb
            refine hK.out _ _ HS1.out (fun _ => ?_)
            clear hK K
            try simp only [Act.put, List.getElem_toArray, List.getElem_cons_zero, List.getElem_cons_succ, List.setIfInBounds_toArray, List.set_cons_zero, List.set_cons_succ]
            refine tk 6 (.string ((⟨#[102, 110, 32]⟩ : ByteArray) ++ ⟨NM.toArray⟩ ++ ⟨VS.toArray⟩)) HS1.out ?_
            refine tk 7 (.string ((⟨#[102, 110, 32]⟩ : ByteArray) ++ ⟨NM.toArray⟩ ++ ⟨VS.toArray⟩ ++ ⟨#[40]⟩)) HS1.out ?_
            refine tk 10 (.string ((⟨#[102, 110, 32]⟩ : ByteArray) ++ ⟨NM.toArray⟩ ++ ⟨VS.toArray⟩ ++ ⟨#[40]⟩ ++ ⟨PM.toArray⟩)) HS1.out ?_
            refine wpAnyH_ready (rs := [13]) (by kernel_rfl) (by simp) ?_
            refine AllReadyH.cons rfl (fun K hK => ?_) (AllReadyH.nil)
            go_simp
            refine (HN0.out _ HS1.out.2).mono ?_
            rintro e wc1 ⟨rfl, hb⟩
            have HS2 := hid (And.intro ((hb.block _ (block_lt HS1.out.1)).trans HS1.out.1) (HS1.out.2.trans (hb.mono (Nat.le_trans HSZ.out HS1.out.2.size))))
            have HBD2 := hid (HBD1.out.below hb)
            clear hb
            refine hK.out _ _ HS2.out (fun _ => ?_)
            clear hK K
            try simp only [Act.put, List.getElem_toArray, List.getElem_cons_zero, List.getElem_cons_succ, List.setIfInBounds_toArray, List.set_cons_zero, List.set_cons_succ]
            refine tk 14 (.string ((⟨#[102, 110, 32]⟩ : ByteArray) ++ ⟨NM.toArray⟩ ++ ⟨VS.toArray⟩ ++ ⟨#[40]⟩ ++ ⟨PM.toArray⟩ ++ ⟨N0.toArray⟩)) HS2.out ?_
            refine tk 15 (.string ((⟨#[102, 110, 32]⟩ : ByteArray) ++ ⟨NM.toArray⟩ ++ ⟨VS.toArray⟩ ++ ⟨#[40]⟩ ++ ⟨PM.toArray⟩ ++ ⟨N0.toArray⟩ ++ ⟨#[41]⟩)) HS2.out ?_
            refine wpAnyH_ready (rs := [18]) (by kernel_rfl) (by simp) ?_
            refine AllReadyH.cons rfl (fun K hK => ?_) (AllReadyH.nil)
            go_simp
            refine (HN1.out _ HS2.out.2).mono ?_
            rintro e wc2 ⟨rfl, hb⟩
            have HS3 := hid (And.intro ((hb.block _ (block_lt HS2.out.1)).trans HS2.out.1) (HS2.out.2.trans (hb.mono (Nat.le_trans HSZ.out HS2.out.2.size))))
            have HBD3 := hid (HBD2.out.below hb)
            clear hb
            refine hK.out _ _ HS3.out (fun _ => ?_)
            clear hK K
            try simp only [Act.put, List.getElem_toArray, List.getElem_cons_zero, List.getElem_cons_succ, List.setIfInBounds_toArray, List.set_cons_zero, List.set_cons_succ]
            refine tk 19 (.string ((⟨#[102, 110, 32]⟩ : ByteArray) ++ ⟨NM.toArray⟩ ++ ⟨VS.toArray⟩ ++ ⟨#[40]⟩ ++ ⟨PM.toArray⟩ ++ ⟨N0.toArray⟩ ++ ⟨#[41]⟩ ++ ⟨N1.toArray⟩)) HS3.out ?_
            refine tk 20 (.string ((⟨#[102, 110, 32]⟩ : ByteArray) ++ ⟨NM.toArray⟩ ++ ⟨VS.toArray⟩ ++ ⟨#[40]⟩ ++ ⟨PM.toArray⟩ ++ ⟨N0.toArray⟩ ++ ⟨#[41]⟩ ++ ⟨N1.toArray⟩ ++ ⟨#[32, 61, 32]⟩)) HS3.out ?_
            refine wpAnyH_ready (rs := [23]) (by kernel_rfl) (by simp) ?_
            refine AllReadyH.cons rfl (fun K hK => ?_) (AllReadyH.nil)
            go_simp
            refine (HEX.out _ HS3.out.2).mono ?_
            rintro e wc3 ⟨rfl, hb⟩
            have HS4 := hid (And.intro ((hb.block _ (block_lt HS3.out.1)).trans HS3.out.1) (HS3.out.2.trans (hb.mono (Nat.le_trans HSZ.out HS3.out.2.size))))
            have HBD4 := hid (HBD3.out.below hb)
            clear hb
            refine hK.out _ _ HS4.out (fun _ => ?_)
            clear hK K
            try simp only [Act.put, List.getElem_toArray, List.getElem_cons_zero, List.getElem_cons_succ, List.setIfInBounds_toArray, List.set_cons_zero, List.set_cons_succ]
            refine tk 24 (.string ((⟨#[102, 110, 32]⟩ : ByteArray) ++ ⟨NM.toArray⟩ ++ ⟨VS.toArray⟩ ++ ⟨#[40]⟩ ++ ⟨PM.toArray⟩ ++ ⟨N0.toArray⟩ ++ ⟨#[41]⟩ ++ ⟨N1.toArray⟩ ++ ⟨#[32, 61, 32]⟩ ++ ⟨E.toArray⟩)) HS4.out ?_
            refine tk 25 (.string ((⟨#[102, 110, 32]⟩ : ByteArray) ++ ⟨NM.toArray⟩ ++ ⟨VS.toArray⟩ ++ ⟨#[40]⟩ ++ ⟨PM.toArray⟩ ++ ⟨N0.toArray⟩ ++ ⟨#[41]⟩ ++ ⟨N1.toArray⟩ ++ ⟨#[32, 61, 32]⟩ ++ ⟨E.toArray⟩ ++ ⟨#[59, 10]⟩)) HS4.out ?_
            refine wpAnyH_ready (rs := [26]) (by kernel_rfl) (by simp) ?_
            refine AllReadyH.cons rfl (fun K hK => ?_) (AllReadyH.nil)
            go_simp
            have ee : (⟨([102, 110, 32] : Bt).toArray⟩ : ByteArray) ++ ⟨NM.toArray⟩ ++ ⟨VS.toArray⟩ ++ ⟨([40] : Bt).toArray⟩ ++ ⟨PM.toArray⟩ ++ ⟨N0.toArray⟩ ++ ⟨([41] : Bt).toArray⟩ ++ ⟨N1.toArray⟩ ++ ⟨([32, 61, 32] : Bt).toArray⟩ ++ ⟨E.toArray⟩ ++ ⟨([59, 10] : Bt).toArray⟩ = ⟨(([102, 110, 32] : Bt) ++ NM ++ VS ++ ([40] : Bt) ++ PM ++ N0 ++ ([41] : Bt) ++ N1 ++ ([32, 61, 32] : Bt) ++ E ++ ([59, 10] : Bt)).toArray⟩ := by
              rw [str_append, str_append, str_append, str_append, str_append, str_append, str_append, str_append, str_append, str_append]
            rw [ee]
            refine (bd_write w.heap.size bB (T ++ [101, 120, 112, 111, 114, 116, 32]) (([102, 110, 32] : Bt) ++ NM ++ VS ++ ([40] : Bt) ++ PM ++ N0 ++ ([41] : Bt) ++ N1 ++ ([32, 61, 32] : Bt) ++ E ++ ([59, 10] : Bt)) _ HBD4.out (by simp only [List.length_append, List.length_cons, List.length_nil]; simp [expS] at htl2; omega) (Nat.le_trans HSZ.out HS4.out.2.size)).mono ?_
            rintro e w9 ⟨⟨v9, rfl⟩, hbd9, hb9, hk9⟩
            have HS9 := hid (And.intro (hk9 _ _ _ _ HS4.out.1 (by decide) (by decide)) (HS4.out.2.trans hb9))
            have HBD9 := hid hbd9
            clear hbd9 hb9 hk9 ee
            refine hK.out _ _ HS9.out (fun _ => ?_)
            clear hK K
            try simp only [Act.put, List.getElem_toArray, List.getElem_cons_zero, List.getElem_cons_succ, List.setIfInBounds_toArray, List.set_cons_zero, List.set_cons_succ]
            refine wpAnyH_done (by kernel_rfl) ?_ _
            go_wp2_with fail
            go_roundw
            case rel => exact ⟨j + 1, rfl, by omega, by rw [HFL.out]; have h := HBD9.out; rw [List.append_assoc] at h; exact h, HBR2.out.trans HS9.out.2⟩
            case measure => simp [intOf]; omega
          | false =>
            have HS0 : Hid (wA.drew.heap[wr.heap.size]? = some (.cells #[sv NM, .bool false, .slice A6 nv c6, sv PM, .slice A7 nt c7, .int .i64 k, .string s, .int .i64 n, .int .i64 l, .int .i64 c, .slice A3 n3 c3, .slice A4 n4 c4, .slice A5 n5 c5, .int .i64 dl, .int .i64 dc] 65 (0, 0)) ∧ Below w.heap.size wr wA.drew) := hid ⟨HSA.out.1, HSA.out.2.trans (below_drawn wA 1)⟩
            have HBD0 : Hid (BdT w.heap.size bB T wA.drew) := hid (HBDA.out.below (below_drawn wA 1))
            go_wp2_with fail
            clear hwA f1 dd0 dd1 dd2 dd3 dd4 dd5 dd6 dd7 dd8 dd9 dd10 dd11 dd12 dd13 dd14
            refine wp_region_held_drew (S := fun w' => w'.heap[wr.heap.size]? = some (.cells #[sv NM, .bool false, .slice A6 nv c6, sv PM, .slice A7 nt c7, .int .i64 k, .string s, .int .i64 n, .int .i64 l, .int .i64 c, .slice A3 n3 c3, .slice A4 n4 c4, .slice A5 n5 c5, .int .i64 dl, .int .i64 dc] 65 (0, 0)) ∧ Below w.heap.size wr w') (by kernel_rfl) HS0.out (fun _ => ?_)
            try simp only [Act.put, List.getElem_toArray, List.getElem_cons_zero, List.getElem_cons_succ, List.setIfInBounds_toArray, List.set_cons_zero, List.set_cons_succ]
            refine tk 0 (.pointer (some ⟨wr.heap.size, 0, none⟩)) HS0.out ?_
            refine tkf 1 (sv NM) (fun w' h => row_cell (j := 0) h.1 rfl) HS0.out ?_
            refine tk 2 (.string ((⟨#[102, 110, 32]⟩ : ByteArray) ++ ⟨NM.toArray⟩)) HS0.out ?_
            refine tk 3 (.pointer (some ⟨wr.heap.size, 2, none⟩)) HS0.out ?_
            refine tkf 4 (.slice A6 nv c6) (fun w' h => row_cell (j := 2) h.1 rfl) HS0.out ?_
            refine tk 8 (.pointer (some ⟨wr.heap.size, 3, none⟩)) HS0.out ?_
            refine tkf 9 (sv PM) (fun w' h => row_cell (j := 3) h.1 rfl) HS0.out ?_
            refine tk 11 (.pointer (some ⟨wr.heap.size, 4, none⟩)) HS0.out ?_
            refine tkf 12 (.slice A7 nt c7) (fun w' h => row_cell (j := 4) h.1 rfl) HS0.out ?_
            refine tk 16 (.pointer (some ⟨wr.heap.size, 4, none⟩)) HS0.out ?_
            refine tkf 17 (.slice A7 nt c7) (fun w' h => row_cell (j := 4) h.1 rfl) HS0.out ?_
            refine tk 21 (.pointer (some ⟨wr.heap.size, 5, none⟩)) HS0.out ?_
            refine tkf 22 (.agg #[.int .i64 k, .string s, .int .i64 n, .int .i64 l, .int .i64 c, .slice A3 n3 c3, .slice A4 n4 c4, .slice A5 n5 c5]) (fun w' h => And.intro (row_cell (j := 5) h.1 rfl) (And.intro (row_cell (j := 6) h.1 rfl) (And.intro (row_cell (j := 7) h.1 rfl) (And.intro (row_cell (j := 8) h.1 rfl) (And.intro (row_cell (j := 9) h.1 rfl) (And.intro (row_cell (j := 10) h.1 rfl) (And.intro (row_cell (j := 11) h.1 rfl) (row_cell (j := 12) h.1 rfl)))))))) HS0.out ?_
            refine wpAnyH_ready (rs := [5]) (by kernel_rfl) (by simp) ?_
            refine AllReadyH.cons rfl (fun K hK => ?_) (AllReadyH.nil)
            go_simp
            refine (HVA.out _ HS0.out.2).mono ?_
            rintro e wc0 ⟨rfl, hb⟩
            have HS1 := hid (And.intro ((hb.block _ (block_lt HS0.out.1)).trans HS0.out.1) (HS0.out.2.trans (hb.mono (Nat.le_trans HSZ.out HS0.out.2.size))))
            have HBD1 := hid (HBD0.out.below hb)
            clear hb
            refine hK.out _ _ HS1.out (fun _ => ?_)
            clear hK K
            try simp only [Act.put, List.getElem_toArray, List.getElem_cons_zero, List.getElem_cons_succ, List.setIfInBounds_toArray, List.set_cons_zero, List.set_cons_succ]
            refine tk 6 (.string ((⟨#[102, 110, 32]⟩ : ByteArray) ++ ⟨NM.toArray⟩ ++ ⟨VS.toArray⟩)) HS1.out ?_
            refine tk 7 (.string ((⟨#[102, 110, 32]⟩ : ByteArray) ++ ⟨NM.toArray⟩ ++ ⟨VS.toArray⟩ ++ ⟨#[40]⟩)) HS1.out ?_
            refine tk 10 (.string ((⟨#[102, 110, 32]⟩ : ByteArray) ++ ⟨NM.toArray⟩ ++ ⟨VS.toArray⟩ ++ ⟨#[40]⟩ ++ ⟨PM.toArray⟩)) HS1.out ?_
            refine wpAnyH_ready (rs := [13]) (by kernel_rfl) (by simp) ?_
            refine AllReadyH.cons rfl (fun K hK => ?_) (AllReadyH.nil)
            go_simp
            refine (HN0.out _ HS1.out.2).mono ?_
            rintro e wc1 ⟨rfl, hb⟩
            have HS2 := hid (And.intro ((hb.block _ (block_lt HS1.out.1)).trans HS1.out.1) (HS1.out.2.trans (hb.mono (Nat.le_trans HSZ.out HS1.out.2.size))))
            have HBD2 := hid (HBD1.out.below hb)
            clear hb
            refine hK.out _ _ HS2.out (fun _ => ?_)
            clear hK K
            try simp only [Act.put, List.getElem_toArray, List.getElem_cons_zero, List.getElem_cons_succ, List.setIfInBounds_toArray, List.set_cons_zero, List.set_cons_succ]
            refine tk 14 (.string ((⟨#[102, 110, 32]⟩ : ByteArray) ++ ⟨NM.toArray⟩ ++ ⟨VS.toArray⟩ ++ ⟨#[40]⟩ ++ ⟨PM.toArray⟩ ++ ⟨N0.toArray⟩)) HS2.out ?_
            refine tk 15 (.string ((⟨#[102, 110, 32]⟩ : ByteArray) ++ ⟨NM.toArray⟩ ++ ⟨VS.toArray⟩ ++ ⟨#[40]⟩ ++ ⟨PM.toArray⟩ ++ ⟨N0.toArray⟩ ++ ⟨#[41]⟩)) HS2.out ?_
            refine wpAnyH_ready (rs := [18]) (by kernel_rfl) (by simp) ?_
            refine AllReadyH.cons rfl (fun K hK => ?_) (AllReadyH.nil)
            go_simp
            refine (HN1.out _ HS2.out.2).mono ?_
            rintro e wc2 ⟨rfl, hb⟩
            have HS3 := hid (And.intro ((hb.block _ (block_lt HS2.out.1)).trans HS2.out.1) (HS2.out.2.trans (hb.mono (Nat.le_trans HSZ.out HS2.out.2.size))))
            have HBD3 := hid (HBD2.out.below hb)
            clear hb
            refine hK.out _ _ HS3.out (fun _ => ?_)
            clear hK K
            try simp only [Act.put, List.getElem_toArray, List.getElem_cons_zero, List.getElem_cons_succ, List.setIfInBounds_toArray, List.set_cons_zero, List.set_cons_succ]
            refine tk 19 (.string ((⟨#[102, 110, 32]⟩ : ByteArray) ++ ⟨NM.toArray⟩ ++ ⟨VS.toArray⟩ ++ ⟨#[40]⟩ ++ ⟨PM.toArray⟩ ++ ⟨N0.toArray⟩ ++ ⟨#[41]⟩ ++ ⟨N1.toArray⟩)) HS3.out ?_
            refine tk 20 (.string ((⟨#[102, 110, 32]⟩ : ByteArray) ++ ⟨NM.toArray⟩ ++ ⟨VS.toArray⟩ ++ ⟨#[40]⟩ ++ ⟨PM.toArray⟩ ++ ⟨N0.toArray⟩ ++ ⟨#[41]⟩ ++ ⟨N1.toArray⟩ ++ ⟨#[32, 61, 32]⟩)) HS3.out ?_
            refine wpAnyH_ready (rs := [23]) (by kernel_rfl) (by simp) ?_
            refine AllReadyH.cons rfl (fun K hK => ?_) (AllReadyH.nil)
            go_simp
            refine (HEX.out _ HS3.out.2).mono ?_
            rintro e wc3 ⟨rfl, hb⟩
            have HS4 := hid (And.intro ((hb.block _ (block_lt HS3.out.1)).trans HS3.out.1) (HS3.out.2.trans (hb.mono (Nat.le_trans HSZ.out HS3.out.2.size))))
            have HBD4 := hid (HBD3.out.below hb)
            clear hb
            refine hK.out _ _ HS4.out (fun _ => ?_)
            clear hK K
            try simp only [Act.put, List.getElem_toArray, List.getElem_cons_zero, List.getElem_cons_succ, List.setIfInBounds_toArray, List.set_cons_zero, List.set_cons_succ]
            refine tk 24 (.string ((⟨#[102, 110, 32]⟩ : ByteArray) ++ ⟨NM.toArray⟩ ++ ⟨VS.toArray⟩ ++ ⟨#[40]⟩ ++ ⟨PM.toArray⟩ ++ ⟨N0.toArray⟩ ++ ⟨#[41]⟩ ++ ⟨N1.toArray⟩ ++ ⟨#[32, 61, 32]⟩ ++ ⟨E.toArray⟩)) HS4.out ?_
            refine tk 25 (.string ((⟨#[102, 110, 32]⟩ : ByteArray) ++ ⟨NM.toArray⟩ ++ ⟨VS.toArray⟩ ++ ⟨#[40]⟩ ++ ⟨PM.toArray⟩ ++ ⟨N0.toArray⟩ ++ ⟨#[41]⟩ ++ ⟨N1.toArray⟩ ++ ⟨#[32, 61, 32]⟩ ++ ⟨E.toArray⟩ ++ ⟨#[59, 10]⟩)) HS4.out ?_
            refine wpAnyH_ready (rs := [26]) (by kernel_rfl) (by simp) ?_
            refine AllReadyH.cons rfl (fun K hK => ?_) (AllReadyH.nil)
            go_simp
            have ee : (⟨([102, 110, 32] : Bt).toArray⟩ : ByteArray) ++ ⟨NM.toArray⟩ ++ ⟨VS.toArray⟩ ++ ⟨([40] : Bt).toArray⟩ ++ ⟨PM.toArray⟩ ++ ⟨N0.toArray⟩ ++ ⟨([41] : Bt).toArray⟩ ++ ⟨N1.toArray⟩ ++ ⟨([32, 61, 32] : Bt).toArray⟩ ++ ⟨E.toArray⟩ ++ ⟨([59, 10] : Bt).toArray⟩ = ⟨(([102, 110, 32] : Bt) ++ NM ++ VS ++ ([40] : Bt) ++ PM ++ N0 ++ ([41] : Bt) ++ N1 ++ ([32, 61, 32] : Bt) ++ E ++ ([59, 10] : Bt)).toArray⟩ := by
              rw [str_append, str_append, str_append, str_append, str_append, str_append, str_append, str_append, str_append, str_append]
            rw [ee]
            refine (bd_write w.heap.size bB (T) (([102, 110, 32] : Bt) ++ NM ++ VS ++ ([40] : Bt) ++ PM ++ N0 ++ ([41] : Bt) ++ N1 ++ ([32, 61, 32] : Bt) ++ E ++ ([59, 10] : Bt)) _ HBD4.out (by simp only [List.length_append, List.length_cons, List.length_nil]; simp [expS] at htl2; omega) (Nat.le_trans HSZ.out HS4.out.2.size)).mono ?_
            rintro e w9 ⟨⟨v9, rfl⟩, hbd9, hb9, hk9⟩
            have HS9 := hid (And.intro (hk9 _ _ _ _ HS4.out.1 (by decide) (by decide)) (HS4.out.2.trans hb9))
            have HBD9 := hid hbd9
            clear hbd9 hb9 hk9 ee
            refine hK.out _ _ HS9.out (fun _ => ?_)
            clear hK K
            try simp only [Act.put, List.getElem_toArray, List.getElem_cons_zero, List.getElem_cons_succ, List.setIfInBounds_toArray, List.set_cons_zero, List.set_cons_succ]
            refine wpAnyH_done (by kernel_rfl) ?_ _
            go_wp2_with fail
            go_roundw
            case rel => exact ⟨j + 1, rfl, by omega, by rw [HFL.out]; exact HBD9.out, HBR2.out.trans HS9.out.2⟩
            case measure => simp [intOf]; omega
        · obtain rfl : j = d := by omega
          have HBDE : Hid (BdT w.heap.size bB (is.flatMap impS ++ ds.flatMap declS) wr) := hid (by have h := HBDI.out; rw [List.take_of_length_le (by rw [HD.out]; omega)] at h; exact h)
          have HT := hid (bd_text _ _ _ _ HBDE.out hbr.size)
          clear hbr hlt
          go_wp2_with fail
          refine HT.out.mono ?_
          rintro e w9 ⟨rfl, hb⟩
          go_wp2_with fail
          go_ret
          exact ⟨rfl, HBR2.out.trans hb⟩
end Go.Proofs.YtbpedjkebemhnaaGreatDoor
