/- Opening arguments: a code that came in. -/
import Derived.Test.YtpnggkkfoipfhaaCJ
import Derived.Test.YtpnggkkfoipfhaaMT
import Derived.Test.YtpnggkkfoipfhaaMO
import Derived.Deep.Slices
import Derived.Lib.SmallJoins
set_option linter.unusedVariables false
namespace Go.Proofs.Ytpnggkkfoipfhaa
open Go.ChangeShapes Go.WideShapes Go.ChangeAt Go.RowKit

/-- Two lists, each with each. -/
inductive All2 {α β : Type} (Q : α → β → Prop) : List α → List β → Prop
  | nil : All2 Q [] []
  | cons {a : α} {b : β} {l : List α} {m : List β} : Q a b → All2 Q l m → All2 Q (a :: l) (b :: m)
theorem All2.snoc {α β : Type} {Q : α → β → Prop} {a : α} {b : β} (h : Q a b) : ∀ {l : List α} {m : List β}, All2 Q l m → All2 Q (l ++ [a]) (m ++ [b])
  | _, _, .nil => .cons h .nil
  | _, _, .cons h1 h2 => .cons h1 (h2.snoc h)
theorem RowR.grow {α : Type} {R : World → List Value → α → Prop} {k : Nat} {w : World} {xs : List Value} {ys : List α} (h : RowR R k w xs ys) : xs.length = ys.length * k := h.len
section
variable {H : Type} {enc : TypeId × Value → H} {P : Program} {W : World}
theorem open_list {α : Type} {t e : TypeId} {k : Nat} (ht : P.underlying t = some (.slice e)) (hc : P.cellsOf e = k) (hk : 0 < k) {fuel : Nat} {v : Value} {x : DataW H × List MemPlace} (h : DataW.trod enc P W 0 (fun _ => true) true fuel t [v] = some x)
    (R : World → List Value → α → Prop) (Q : DataW H → α → Prop) (hel : ∀ n cs' x', n < fuel → DataW.trod enc P W 0 (fun _ => true) true n e cs' = some x' → cs'.length = k → ∃ y, R W cs' y ∧ Q x'.1 y) :
    ∃ (xs : List Value) (ys : List α), Sl W W.heap.size k v xs ∧ RowR R k W xs ys ∧ ((x.1 = .nil ∧ ys = []) ∨ ∃ els sp, x.1 = .slice els sp ∧ All2 Q els ys) := by
  rcases DataW.trod_slice ht h with ⟨hcs, hx⟩ | ⟨a, len, cap, elems, rest, n, hf, hcs, hx, hb, hl, hm, hlen, hcell, _, _⟩
  · obtain rfl : v = .slice none 0 0 := by simpa using hcs
    exact ⟨[], [], Sl.nil _ _ _, .nil, .inl ⟨by rw [hx], rfl⟩⟩
  · obtain rfl : v = .slice (some a) len cap := by simpa using hcs
    have hone : ∀ i, i < len → ∃ cs' y, W.cells? 0 (a.add (i * k)) k = some cs' ∧ R W cs' y ∧ cs'.length = k ∧ ∀ (hi : i < elems.length), Q elems[i].1 y := by
      intro i hi
      have h1 := hcell i hi
      rw [hc, List.getElem?_eq_getElem (by omega)] at h1
      obtain ⟨cs', h2, h3⟩ := Option.bind_eq_some_iff.1 h1
      have hcl := (World.cells?_some h2).2.1
      obtain ⟨y, hy1, hy2⟩ := hel n cs' _ (by omega) h3 hcl
      exact ⟨cs', y, h2, hy1, hcl, fun _ => hy2⟩
    have hall : ∀ m, m ≤ len → ∃ (xs : List Value) (ys : List α), RowR R k W xs ys ∧ ys.length = m ∧ (∀ j u, xs[j]? = some u → W.cell? (a.add j) = some u) ∧ All2 Q ((elems.take m).map (·.1)) ys := by
      intro m
      induction m with
      | zero => exact fun _ => ⟨[], [], .nil, rfl, fun j u hu => by simp at hu, by simpa using All2.nil⟩
      | succ m ih =>
        intro hm1
        obtain ⟨xs, ys, h1, h2, h3, h4⟩ := ih (by omega)
        obtain ⟨cs', y, h5, h6, h7, h8⟩ := hone m (by omega)
        have hxl : xs.length = m * k := by rw [h1.len, h2]
        refine ⟨xs ++ cs', ys ++ [y], h1.snoc h7 h6, by rw [List.length_append, h2]; rfl, fun j u hu => ?_, ?_⟩
        · rcases Nat.lt_or_ge j xs.length with hj | hj
          · rw [List.getElem?_append_left hj] at hu
            exact h3 j u hu
          · rw [List.getElem?_append_right hj] at hu
            have hjk : j - xs.length < k := by
              rcases Nat.lt_or_ge (j - xs.length) k with hlt | hge
              · exact hlt
              · rw [List.getElem?_eq_none (by omega)] at hu; cases hu
            have h9 := (World.cells?_some h5).2.2 (j - xs.length) hjk
            rw [hu] at h9
            have hadd : (a.add (m * k)).add (j - xs.length) = a.add j := by
              rw [Deep.add_add, ← hxl]; congr 1; omega
            rw [hadd] at h9
            exact h9
        · rw [List.take_succ_eq_append_getElem (by omega), List.map_append]
          exact h4.snoc (h8 (by omega))
    obtain ⟨xs, ys, h1, h2, h3, h4⟩ := hall len (Nat.le_refl _)
    have hxl : xs.length = len * k := by rw [h1.len, h2]
    refine ⟨xs, ys, ⟨some a, len, cap, rfl, hxl, hl, hm, fun h0 => ?_⟩, h1, .inr ⟨_, _, by rw [hx], ?_⟩⟩
    · have hp : 0 < xs.length := by rw [hxl]; exact Nat.mul_pos h0 hk
      have h5 := h3 0 xs[0] (by simp [hp])
      obtain ⟨b, off, spot⟩ := a
      have hspot : spot = none := by simpa [Addr.add] using World.cell?_spot h5
      subst hspot
      refine ⟨b, off, rfl, ?_, fun j u hu => ?_⟩
      · rw [plain_add] at h5
        exact World.block_lt_of_cell? W _ h5
      · have := h3 j u hu
        rw [plain_add] at this
        exact this
    · rw [← hlen, List.take_length] at h4
      exact h4
theorem All2.all {α β : Type} {Q : α → β → Prop} {R : β → Prop} (hq : ∀ a b, Q a b → R b) : ∀ {l : List α} {m : List β}, All2 Q l m → ∀ y ∈ m, R y
  | _, _, .nil, y, hy => by cases hy
  | _, _, .cons h1 h2, y, hy => by
    rcases List.mem_cons.1 hy with rfl | hy
    · exact hq _ _ h1
    · exact All2.all hq h2 y hy
theorem All2.bulk {β : Type} {Q : DataW H → β → Prop} {e : β → Bt} (hq : ∀ d y, Q d y → (e y).length ≤ 20 * Rows.uptoBulk d) : ∀ {l : List (DataW H)} {m : List β}, All2 Q l m → (m.flatMap e).length ≤ 20 * Rows.uptoBulkAll l
  | _, _, .nil => by simp
  | _, _, .cons h1 h2 => by
    rw [List.flatMap_cons, List.length_append, Rows.uptoBulkAll]
    have := hq _ _ h1
    have := All2.bulk hq h2
    omega
/-- What an element is: its encoding is not longer than twenty times its bulk. -/
def EQ {α : Type} (ok : α → Prop) (e : α → Bt) (d : DataW H) (y : α) : Prop := ok y ∧ (e y).length ≤ 20 * Rows.uptoBulk d
theorem open_seq {α : Type} {t e : TypeId} {k : Nat} (ht : P.underlying t = some (.slice e)) (hc : P.cellsOf e = k) (hk : 0 < k) {fuel : Nat} {v : Value} {x : DataW H × List MemPlace} (h : DataW.trod enc P W 0 (fun _ => true) true fuel t [v] = some x)
    (R : World → List Value → α → Prop) (ok : α → Prop) (en : α → Bt) (hel : ∀ n cs' x', n < fuel → DataW.trod enc P W 0 (fun _ => true) true n e cs' = some x' → cs'.length = k → ∃ y, R W cs' y ∧ EQ ok en x'.1 y) :
    ∃ (xs : List Value) (ys : List α), Sl W W.heap.size k v xs ∧ RowR R k W xs ys ∧ In64 (ys.length : Int) ∧ (∀ y ∈ ys, ok y) ∧ (listE en ys).length ≤ 20 * Rows.uptoBulk x.1 := by
  obtain ⟨xs, ys, h1, h2, h3⟩ := open_list ht hc hk h R (EQ ok en) hel
  have hp := (putL_some (ys.length : Int)).2
  refine ⟨xs, ys, h1, h2, ?_, ?_⟩
  · obtain ⟨A, n, c, rfl⟩ := sl_shape h1
    obtain ⟨a1, a2, a3⟩ := sl_len h1
    have := h2.len
    rw [this] at a1
    have : ys.length = n := Nat.eq_of_mul_eq_mul_right hk a1
    unfold In64; omega
  · unfold listE
    rw [List.length_append]
    rcases h3 with ⟨hx, rfl⟩ | ⟨els, sp, hx, h4⟩
    · refine ⟨fun y hy => (by cases hy), ?_⟩
      rw [hx, Rows.uptoBulk]
      simp only [List.flatMap_nil, List.length_nil] at hp ⊢
      omega
    · refine ⟨h4.all (R := ok) (fun _ _ h => h.1), ?_⟩
      rw [hx, Rows.uptoBulk]
      have := h4.bulk (e := en) (fun _ _ h => h.2)
      omega
theorem open_in {t : TypeId} (ht : P.underlying t = some (.int .i64)) {fuel : Nat} {cs : List Value} {x : DataW H × List MemPlace} (h : DataW.trod enc P W 0 (fun _ => true) true fuel t cs = some x) : ∃ y, RInt W cs y ∧ EQ In64 putL x.1 y := by
  obtain ⟨n, rfl, rfl, hw⟩ := DataW.trod_int ht h
  refine ⟨n, rfl, wf_in64 hw, ?_⟩
  have := (putL_some n).2
  show _ ≤ 20 * 1
  omega
theorem open_tx {t : TypeId} (ht : P.underlying t = some .string) {fuel : Nat} {cs : List Value} {x : DataW H × List MemPlace} (h : DataW.trod enc P W 0 (fun _ => true) true fuel t cs = some x) : ∃ y, RText W cs y ∧ EQ (fun s : Bt => In64 (s.length : Int)) textE x.1 y := by
  obtain ⟨s, rfl, rfl, hs⟩ := DataW.trod_string ht h
  have e : s.data.toList.length = s.size := Array.length_toList
  refine ⟨s.data.toList, by show _ = _; rw [sv_of], ?_, ?_⟩
  · unfold In64 maxLen at *; omega
  · have := (putL_some (s.data.toList.length : Int)).2
    unfold textE
    rw [List.length_append, Rows.uptoBulk]
    omega
end
section
variable {H : Type} {enc : TypeId × Value → H} {W : World}
theorem open_texts_ {fuel : Nat} {v : Value} {x : DataW H × List MemPlace} (h : DataW.trod enc Try.prog W 0 (fun _ => true) true fuel 23 [v] = some x) : ∃ y, Ss W W.heap.size v y ∧ EQ TextsOk (listE textE) x.1 y := by
  obtain ⟨xs, ys, h1, h2, h3, h4, h5⟩ := open_seq Try.underlying23 (k := 1) (by kernel_rfl) (by omega) h RText (fun s : Bt => In64 (s.length : Int)) textE (fun n cs' x' _ ht _ => open_tx Try.underlying9 ht)
  exact ⟨ys, list_texts ⟨xs, h1, h2⟩, ⟨h3, h4⟩, h5⟩
theorem open_ints_ {fuel : Nat} {v : Value} {x : DataW H × List MemPlace} (h : DataW.trod enc Try.prog W 0 (fun _ => true) true fuel 22 [v] = some x) : ∃ y, Sl W W.heap.size 1 v (intsV y) ∧ EQ NumsOk (listE putL) x.1 y := by
  obtain ⟨xs, ys, h1, h2, h3, h4, h5⟩ := open_seq Try.underlying22 (k := 1) (by kernel_rfl) (by omega) h RInt In64 putL (fun n cs' x' _ ht _ => open_in Try.underlying3 ht)
  exact ⟨ys, list_ints ⟨xs, h1, h2⟩, ⟨h3, h4⟩, h5⟩
set_option maxRecDepth 100000 in
theorem open_need {fuel : Nat} {cs : List Value} {x : DataW H × List MemPlace} (h : DataW.trod enc Try.prog W 0 (fun _ => true) true fuel 84 cs = some x) : ∃ y, RNeed W cs y ∧ EQ (fun x : Bt × Int => In64 (x.1.length : Int) ∧ In64 x.2) needE x.1 y := by
  obtain ⟨xs, n, _, rfl, hl, hlen, hf⟩ := DataW.trod_struct Try.underlying84 h
  rw [show Try.prog.cellsOf 84 = 2 by kernel_rfl] at hl
  match cs, hl, xs, hlen with
  | [u0, u1], _, [y0, y1], _ =>
    have t0 : DataW.trod enc Try.prog W 0 (fun _ => true) true n 9 [u0] = some y0 := hf 0 _ rfl
    have t1 : DataW.trod enc Try.prog W 0 (fun _ => true) true n 3 [u1] = some y1 := hf 1 _ rfl
    obtain ⟨a, r0, o0, b0⟩ := open_tx Try.underlying9 t0
    obtain ⟨b, r1, o1, b1⟩ := open_in Try.underlying3 t1
    obtain rfl : u0 = sv a := by simpa [RText] using r0
    obtain rfl : u1 = .int .i64 b := by simpa [RInt] using r1
    refine ⟨(a, b), rfl, ⟨o0, o1⟩, ?_⟩
    unfold needE
    rw [List.length_append, Rows.uptoBulk]
    simp only [List.map_cons, List.map_nil, Rows.uptoBulkAll]
    omega
set_option maxRecDepth 100000 in
theorem open_instr {fuel : Nat} {cs : List Value} {x : DataW H × List MemPlace} (h : DataW.trod enc Try.prog W 0 (fun _ => true) true fuel 64 cs = some x) : ∃ y, RInstr W cs y ∧ EQ InstrOk instrE x.1 y := by
  obtain ⟨xs, n, _, rfl, hl, hlen, hf⟩ := DataW.trod_struct Try.underlying64 h
  rw [show Try.prog.cellsOf 64 = 4 by kernel_rfl] at hl
  match cs, hl, xs, hlen with
  | [u0, u1, u2, u3], _, [y0, y1, y2, y3], _ =>
    have t0 : DataW.trod enc Try.prog W 0 (fun _ => true) true n 3 [u0] = some y0 := hf 0 _ rfl
    have t1 : DataW.trod enc Try.prog W 0 (fun _ => true) true n 3 [u1] = some y1 := hf 1 _ rfl
    have t2 : DataW.trod enc Try.prog W 0 (fun _ => true) true n 3 [u2] = some y2 := hf 2 _ rfl
    have t3 : DataW.trod enc Try.prog W 0 (fun _ => true) true n 3 [u3] = some y3 := hf 3 _ rfl
    obtain ⟨a, r0, o0, b0⟩ := open_in Try.underlying3 t0
    obtain ⟨b, r1, o1, b1⟩ := open_in Try.underlying3 t1
    obtain ⟨c, r2, o2, b2⟩ := open_in Try.underlying3 t2
    obtain ⟨d, r3, o3, b3⟩ := open_in Try.underlying3 t3
    obtain rfl : u0 = .int .i64 a := by simpa [RInt] using r0
    obtain rfl : u1 = .int .i64 b := by simpa [RInt] using r1
    obtain rfl : u2 = .int .i64 c := by simpa [RInt] using r2
    obtain rfl : u3 = .int .i64 d := by simpa [RInt] using r3
    refine ⟨(a, b, c, d), rfl, ⟨o0, o1, o2, o3⟩, ?_⟩
    unfold instrE
    rw [List.length_append, List.length_append, List.length_append, Rows.uptoBulk]
    simp only [List.map_cons, List.map_nil, Rows.uptoBulkAll]
    omega
set_option maxRecDepth 100000 in
theorem open_proc {fuel : Nat} {cs : List Value} {x : DataW H × List MemPlace} (h : DataW.trod enc Try.prog W 0 (fun _ => true) true fuel 47 cs = some x) : ∃ y, RProc W cs y ∧ EQ ProcOk procE x.1 y := by
  obtain ⟨xs, n, _, rfl, hl, hlen, hf⟩ := DataW.trod_struct Try.underlying47 h
  rw [show Try.prog.cellsOf 47 = 3 by kernel_rfl] at hl
  match cs, hl, xs, hlen with
  | [u0, u1, u2], _, [y0, y1, y2], _ =>
    have t0 : DataW.trod enc Try.prog W 0 (fun _ => true) true n 3 [u0] = some y0 := hf 0 _ rfl
    have t1 : DataW.trod enc Try.prog W 0 (fun _ => true) true n 3 [u1] = some y1 := hf 1 _ rfl
    have t2 : DataW.trod enc Try.prog W 0 (fun _ => true) true n 45 [u2] = some y2 := hf 2 _ rfl
    obtain ⟨a, r0, o0, b0⟩ := open_in Try.underlying3 t0
    obtain ⟨b, r1, o1, b1⟩ := open_in Try.underlying3 t1
    obtain ⟨zs, l, h1, h2, h3, h4, h5⟩ := open_seq Try.underlying45 (k := 4) (by kernel_rfl) (by omega) t2 RInstr InstrOk instrE (fun n cs' x' _ ht _ => open_instr ht)
    obtain rfl : u0 = .int .i64 a := by simpa [RInt] using r0
    obtain rfl : u1 = .int .i64 b := by simpa [RInt] using r1
    refine ⟨⟨a, b, l⟩, ⟨u2, rfl, list_instrs ⟨zs, h1, h2⟩⟩, ⟨o0, o1, h3, h4⟩, ?_⟩
    unfold procE
    rw [List.length_append, List.length_append, Rows.uptoBulk]
    simp only [List.map_cons, List.map_nil, Rows.uptoBulkAll]
    omega
set_option maxRecDepth 100000 in
theorem open_co : ∀ (fuel : Nat) (cs : List Value) (x : DataW H × List MemPlace), DataW.trod enc Try.prog W 0 (fun _ => true) true fuel 42 cs = some x → ∃ y, RCo W cs y ∧ EQ coOk coE x.1 y := by
  intro fuel
  induction fuel using Nat.strongRecOn with
  | _ fuel ih =>
    intro cs x h
    obtain ⟨xs, n, hn, rfl, hl, hlen, hf⟩ := DataW.trod_struct Try.underlying42 h
    rw [show Try.prog.cellsOf 42 = 5 by kernel_rfl] at hl
    match cs, hl, xs, hlen with
    | [u0, u1, u2, u3, u4], _, [y0, y1, y2, y3, y4], _ =>
      have t0 : DataW.trod enc Try.prog W 0 (fun _ => true) true n 22 [u0] = some y0 := hf 0 _ rfl
      have t1 : DataW.trod enc Try.prog W 0 (fun _ => true) true n 40 [u1] = some y1 := hf 1 _ rfl
      have t2 : DataW.trod enc Try.prog W 0 (fun _ => true) true n 23 [u2] = some y2 := hf 2 _ rfl
      have t3 : DataW.trod enc Try.prog W 0 (fun _ => true) true n 25 [u3] = some y3 := hf 3 _ rfl
      have t4 : DataW.trod enc Try.prog W 0 (fun _ => true) true n 25 [u4] = some y4 := hf 4 _ rfl
      obtain ⟨a, r0, o0, b0⟩ := open_ints_ t0
      obtain ⟨zn, b, h1, h2, h3, h4, h5⟩ := open_seq Try.underlying40 (k := 2) (by kernel_rfl) (by omega) t1 RNeed (fun x : Bt × Int => In64 (x.1.length : Int) ∧ In64 x.2) needE (fun n cs' x' _ ht _ => open_need ht)
      obtain ⟨c, r2, o2, b2⟩ := open_texts_ t2
      obtain ⟨zf, f, f1, f2, f3, f4, f5⟩ := open_seq Try.underlying25 (k := 5) (by kernel_rfl) (by omega) t3 RCo coOk coE (fun m cs' x' hm ht _ => ih m (by omega) cs' x' ht)
      obtain ⟨zu, u, g1, g2, g3, g4, g5⟩ := open_seq Try.underlying25 (k := 5) (by kernel_rfl) (by omega) t4 RCo coOk coE (fun m cs' x' hm ht _ => ih m (by omega) cs' x' ht)
      refine ⟨.mk a b c f u, .mk r0 (list_needs ⟨zn, h1, h2⟩) r2 f1 (row_cos f2) g1 (row_cos g2), ?_, ?_⟩
      · rw [coOk]
        exact ⟨o0, ⟨h3, h4⟩, o2, ⟨f3, cosOk_mem.2 f4⟩, ⟨g3, cosOk_mem.2 g4⟩⟩
      · rw [coE_eq]
        rw [List.length_append, List.length_append, List.length_append, List.length_append, Rows.uptoBulk]
        simp only [List.map_cons, List.map_nil, Rows.uptoBulkAll]
        omega
set_option maxRecDepth 100000 in
/-- A code that came in. -/
theorem open_code {v : Value} {d : DataW H} {p : List MemPlace} (hd : DataW.Trod enc Try.prog W 0 (fun _ => true) true 28 v d p) :
    ∃ (z : List Value) (c : CodeD), v = Value.agg z.toArray ∧ CodeR W W.heap.size z c ∧ CodeOk c ∧ (codeE c).length ≤ 20 * Rows.uptoBulk d := by
  obtain ⟨fuel, h⟩ := hd
  obtain ⟨xs, n, _, hx, hl, hlen, hf⟩ := DataW.trod_struct Try.underlying28 h
  rw [show Try.prog.cellsOf 28 = 7 by kernel_rfl] at hl
  obtain ⟨zz, rfl, hzz⟩ : ∃ z : List Value, v = Value.agg z.toArray ∧ v.cells.toList = z := by
    cases v with
    | agg z => exact ⟨z.toList, by simp, rfl⟩
    | _ => simp [Value.cells] at hl
  rw [hzz] at hl hf
  injection hx with hx1 hx2
  subst hx1
  match zz, hl, xs, hlen with
  | [u0, u1, u2, u3, u4, u5, u6], _, [y0, y1, y2, y3, y4, y5, y6], _ =>
    have t0 : DataW.trod enc Try.prog W 0 (fun _ => true) true n 22 [u0] = some y0 := hf 0 _ rfl
    have t1 : DataW.trod enc Try.prog W 0 (fun _ => true) true n 23 [u1] = some y1 := hf 1 _ rfl
    have t2 : DataW.trod enc Try.prog W 0 (fun _ => true) true n 24 [u2] = some y2 := hf 2 _ rfl
    have t3 : DataW.trod enc Try.prog W 0 (fun _ => true) true n 25 [u3] = some y3 := hf 3 _ rfl
    have t4 : DataW.trod enc Try.prog W 0 (fun _ => true) true n 26 [u4] = some y4 := hf 4 _ rfl
    have t5 : DataW.trod enc Try.prog W 0 (fun _ => true) true n 3 [u5] = some y5 := hf 5 _ rfl
    have t6 : DataW.trod enc Try.prog W 0 (fun _ => true) true n 4 [u6] = some y6 := hf 6 _ rfl
    obtain ⟨a, r0, o0, b0⟩ := open_ints_ t0
    obtain ⟨b, r1, o1, b1⟩ := open_texts_ t1
    obtain ⟨zh, hh, h1, h2, h3, h4, h5⟩ := open_seq Try.underlying24 (k := 1) (by kernel_rfl) (by omega) t2 RTexts TextsOk (listE textE) (fun n cs' x' _ ht hl => by
      match cs', hl with
      | [v], _ =>
        obtain ⟨y, q1, q2⟩ := open_texts_ ht
        exact ⟨y, ⟨v, rfl, q1⟩, q2⟩)
    obtain ⟨zc, c, f1, f2, f3, f4, f5⟩ := open_seq Try.underlying25 (k := 5) (by kernel_rfl) (by omega) t3 RCo coOk coE (fun m cs' x' hm ht _ => open_co m cs' x' ht)
    obtain ⟨zp, pp, g1, g2, g3, g4, g5⟩ := open_seq Try.underlying26 (k := 3) (by kernel_rfl) (by omega) t4 RProc ProcOk procE (fun m cs' x' hm ht _ => open_proc ht)
    obtain ⟨mn, r5, o5, b5⟩ := open_in Try.underlying3 t5
    obtain ⟨mg, e6, rfl⟩ := DataW.trod_bool Try.underlying4 t6
    obtain rfl : u5 = .int .i64 mn := by simpa [RInt] using r5
    obtain rfl : u6 = .bool mg := by simpa using e6
    refine ⟨_, ⟨a, b, hh, c, pp, mn, mg⟩, rfl, ⟨_, _, _, _, _, _, _, _, rfl, r0, r1, h1, row_shapes h2, f1, row_cos f2, g1, row_procs g2⟩, ⟨o0, o1, ⟨h3, h4⟩, ⟨f3, f4⟩, ⟨g3, g4⟩, o5⟩, ?_⟩
    show (putL (if mg then 1 else 0) ++ (putL mn ++ (listE putL a ++ (listE textE b ++ (listE (listE textE) hh ++ (putL (c.length : Int) ++ (cosE c ++ listE procE pp))))))).length ≤ _
    rw [← List.append_assoc (putL (c.length : Int)), cosE_list]
    have := (putL_some (if mg then 1 else 0)).2
    simp only [List.length_append]
    rw [Rows.uptoBulk]
    simp only [List.map_cons, List.map_nil, Rows.uptoBulkAll]
    have e6 : 1 ≤ Rows.uptoBulk (DataW.lit (H := H) (.bool mg)) := Nat.le_refl 1
    omega
end
end Go.Proofs.Ytpnggkkfoipfhaa
