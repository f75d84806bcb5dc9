/- A reader of bytes: lists. -/
import Derived.Test.YtpnggkkfoipfhaaCA
set_option linter.unusedVariables false
namespace Go.Proofs.Ytpnggkkfoipfhaa
open Go.RowKit

/-- Cells, k of them an element, that read as a list. -/
inductive RowR {α : Type} (R : World → List Value → α → Prop) (k : Nat) (w : World) : List Value → List α → Prop
  | nil : RowR R k w [] []
  | cons {x y : List Value} {c : α} {l : List α} : x.length = k → R w x c → RowR R k w y l → RowR R k w (x ++ y) (c :: l)
theorem RowR.snoc {α : Type} {R : World → List Value → α → Prop} {k : Nat} {w : World} {z : List Value} {c : α} (hz : z.length = k) (hc : R w z c) : ∀ {xs : List Value} {ys : List α}, RowR R k w xs ys → RowR R k w (xs ++ z) (ys ++ [c])
  | _, _, .nil => by have := RowR.cons (R := R) hz hc .nil; simpa using this
  | _, _, .cons h1 h2 h3 => by rw [List.append_assoc, List.cons_append]; exact .cons h1 h2 (RowR.snoc hz hc h3)
theorem RowR.len {α : Type} {R : World → List Value → α → Prop} {k : Nat} {w : World} : ∀ {xs : List Value} {ys : List α}, RowR R k w xs ys → xs.length = ys.length * k
  | _, _, .nil => by simp
  | _, _, .cons h1 h2 h3 => by rw [List.length_append, List.length_cons, h1, RowR.len h3, Nat.add_mul, Nat.one_mul, Nat.add_comm]
/-- An element in one cell; an element in k cells; a slice of elements. -/
def El1 {α : Type} (S : Value → Prop) (R : World → List Value → α → Prop) (w : World) (v : Value) (x : α) : Prop := S v ∧ R w [v] x
def ElK {α : Type} (k : Nat) (R : World → List Value → α → Prop) (w : World) (v : Value) (x : α) : Prop := ∃ z : List Value, v = .agg z.toArray ∧ z.length = k ∧ (∀ u ∈ z, u.oneCell' = true) ∧ R w z x
def ListP {α : Type} (k : Nat) (R : World → List Value → α → Prop) (w : World) (v : Value) (ys : List α) : Prop := ∃ xs, Sl w w.heap.size k v xs ∧ RowR R k w xs ys
theorem ElK.all {α : Type} {k : Nat} {R : World → List Value → α → Prop} {G : World → Prop} {w0 : World} {v : Value} {x : α} (h0 : G w0) (h : ∀ w, G w → ElK k R w v x) : ∃ z : List Value, v = .agg z.toArray ∧ z.length = k ∧ (∀ u ∈ z, u.oneCell' = true) ∧ ∀ w, G w → R w z x := by
  obtain ⟨z, rfl, h1, h2, h3⟩ := h w0 h0
  refine ⟨z, rfl, h1, h2, fun w hw => ?_⟩
  obtain ⟨z', e, _, _, h4⟩ := h w hw
  injection e with e
  have : z = z' := by have := congrArg Array.toList e; simpa using this
  rw [this]; exact h4
theorem len_2 {z : List Value} (h : z.length = 2) : ∃ x0 x1, z = [x0, x1] := by
  match z, h with
  | [x0, x1], _ => exact ⟨x0, x1, rfl⟩
theorem len_3 {z : List Value} (h : z.length = 3) : ∃ x0 x1 x2, z = [x0, x1, x2] := by
  match z, h with
  | [x0, x1, x2], _ => exact ⟨x0, x1, x2, rfl⟩
theorem len_4 {z : List Value} (h : z.length = 4) : ∃ x0 x1 x2 x3, z = [x0, x1, x2, x3] := by
  match z, h with
  | [x0, x1, x2, x3], _ => exact ⟨x0, x1, x2, x3, rfl⟩
theorem len_5 {z : List Value} (h : z.length = 5) : ∃ x0 x1 x2 x3 x4, z = [x0, x1, x2, x3, x4] := by
  match z, h with
  | [x0, x1, x2, x3, x4], _ => exact ⟨x0, x1, x2, x3, x4, rfl⟩
/-- Where the loop stands: i elements of n have been read. -/
structure AllAt {α : Type} (k : Nat) (T : TypeId) (R : World → List Value → α → Prop) (d1 : Bt → Option (α × Bt)) (w : World) (bk B : Nat) (d : Int) (n : Nat) (r0 : Bt) (wr : World) (v : Value) (i : Nat) (ys : List α) (xs : List Value) (r : Bt) : Prop where
  len : ys.length = i
  turn : Turn (fun k => k = bk) w wr
  row : wr.ownsRow w.heap.size T k v i xs
  rd : RdAt wr bk B r d
  all : ∀ w'', Turn (fun j => j < w.heap.size ∨ v.ownBlock = some j) wr w'' → RowR R k w'' xs ys
  eq : timesD d1 n r0 = (timesD d1 (n - i) r).map (fun p => (ys ++ p.1, p.2))
section
variable {α : Type} {k : Nat} {T : TypeId} {R : World → List Value → α → Prop} {d1 : Bt → Option (α × Bt)} {w : World} {bk B : Nat} {d : Int} {n : Nat} {r0 : Bt} {wr : World} {v : Value} {i : Nat} {ys : List α} {xs : List Value} {r : Bt}
theorem AllAt.start {w2 : World} (t : Turn (fun k => k = bk) w w2) (hr : RdAt w2 bk B r0 d) : AllAt k T R d1 w bk B d n r0 w2 (.slice none 0 0) 0 [] [] r0 :=
  ⟨rfl, t, World.ownsRow_nil _ _ _ _, hr, fun _ _ => .nil, by
    rw [Nat.sub_zero]
    cases timesD d1 n r0 with
    | none => rfl
    | some p => rfl⟩
theorem AllAt.fail (h : AllAt k T R d1 w bk B d n r0 wr v i ys xs r) (hi : i < n) (hx : d1 r = none) : timesD d1 n r0 = none := by
  rw [h.eq]
  obtain ⟨m, hm⟩ : ∃ m, n - i = m + 1 := ⟨n - i - 1, by omega⟩
  rw [hm, timesD, hx]
  rfl
theorem AllAt.step (h : AllAt k T R d1 w bk B d n r0 wr v i ys xs r) (hbw : bk < w.heap.size) (hi : i < n) {x : α} {r' : Bt} (hx : d1 r = some (x, r')) {w1 w5 w9 : World} {z : List Value} {v9 : Value} {i9 : Nat}
    (t1 : Turn (fun k => k = bk) wr w1) (hz : z.length = k) (hp : ∀ w'', Turn (fun k => k < wr.heap.size) w1 w'' → R w'' z x) (hr : RdAt w1 bk B r' d) (hb : Below w1.heap.size w1 w5) (hg : w5.grownBy w9 v.ownBlock) (hi9 : i9 = i + 1) (hown : w9.ownsRow w.heap.size T k v9 i9 (xs ++ z)) (hk : v9.ownBlock = v.ownBlock ∨ v9.ownBlock = some w5.heap.size) :
    AllAt k T R d1 w bk B d n r0 w9 v9 (i + 1) (ys ++ [x]) (xs ++ z) r' := by
  subst hi9
  have hrow := h.row.lt
  have hs1 := t1.size
  have hs5 := hb.size
  have hsw := h.turn.size
  have hbk := hr.lt
  have hbk0 := h.rd.lt
  have t9 : Turn (fun j => v.ownBlock = some j) w1 w9 := (Turn.of_below hb).trans (Turn.of_grown hg (fun j hj => hj)) (fun _ _ h => h)
  have hold : ∀ (w'' : World), Turn (fun j => j < w.heap.size ∨ v9.ownBlock = some j) w9 w'' → Turn (fun j => j < w.heap.size ∨ v.ownBlock = some j) w1 w'' := by
    intro w'' t
    refine (t9.mono (fun j _ hj => .inr hj)).trans t (fun j hj hG => ?_)
    rcases hG with hG | hG
    · exact .inl hG
    · rcases hk with hk | hk
      · exact .inr (hk ▸ hG)
      · rw [hk] at hG; injection hG with hG; omega
  refine ⟨by rw [List.length_append, h.len]; rfl, ?_, hown, ?_, fun w'' t => ?_, ?_⟩
  · refine (turn_same h.turn t1).trans t9 (fun j hj hG => ?_)
    have := (hrow j hG).1
    omega
  · refine hr.turn t9 (fun e => by have := (hrow _ e).1; omega) (fun j hj e => by have := (hrow _ e).1; have := hr.1; omega)
  · refine RowR.snoc hz (hp w'' ((hold w'' t).mono (fun j _ hj => ?_))) (h.all w'' ?_)
    · rcases hj with hj | hj
      · omega
      · exact (hrow j hj).2
    · exact (t1.mono (fun j _ hj => .inl (by rw [hj]; exact hbw))).trans (hold w'' t) (fun _ _ h => h)
  · rw [h.eq]
    obtain ⟨m, hm⟩ : ∃ m, n - i = m + 1 := ⟨n - i - 1, by omega⟩
    have hm' : n - (i + 1) = m := by omega
    rw [hm, hm', timesD, hx]
    simp only
    cases timesD d1 m r' with
    | none => rfl
    | some p => simp
theorem AllAt.done (h : AllAt k T R d1 w bk B d n r0 wr v n ys xs r) {q : Option (List α × Bt)} (hq : q = timesD d1 n r0) : ReadsTo (ListP k R) bk B d w q (.returned v) wr := by
  have hrow := h.row.lt
  refine ReadsTo.done (x := ys) (r := r) (by rw [hq, h.eq, Nat.sub_self, timesD]; simp) h.turn (fun w'' t => ⟨xs, ?_, h.all w'' (t.mono fun j _ hj => .inl hj)⟩) h.rd
  exact Sl.of_own (own_turn h.row t (fun g hg e => by have := (hrow g hg).1; omega))
end

theorem el_rd_int : ElemIs Try.prog 22 3 (.int .i64 0) 1 8 := ⟨Try.underlying22, by kernel_rfl, rfl, by decide⟩
set_option maxRecDepth 100000 in
set_option maxHeartbeats 2000000 in
theorem all_int_any {α : Type} (d1 : Bt → Option (α × Bt)) (R : World → List Value → α → Prop) (w : World) (bk B : Nat) (l : Bt) (d : Int) (hR : RdAt w bk B l d)
    (hone : ∀ w1 l1, RdAt w1 bk B l1 d → Calls Try.prog 50 #[.pointer (some ⟨bk, 0, none⟩)] w1 fun e w' => ReadsTo (El1 (fun v => ∃ n12, v = Value.int .i64 n12) R) bk B d w1 (d1 l1) e w') :
    Calls Try.prog 52 #[.pointer (some ⟨bk, 0, none⟩), .func (.func 50) #[.pointer (some ⟨bk, 0, none⟩)] #[]] w fun e w' => ReadsTo (ListP 1 R) bk B d w (allD d1 l) e w' := by
  have HM := hid (rdmany_any w bk B l d hR)
  have HONE := hid hone
  have hlt0 := hR.lt
  have hL0 := hR.2.1
  clear hR hone
  rcases hq : manyD l with _ | ⟨n, r0⟩
  · have hm : allD d1 l = none := by unfold allD; rw [hq]
    have HQ := hid hq
    have HA := hid hm
    clear hq hm
    go_enter Try.func52, Try.ntmps52
    go_wp2_with fail
    refine HM.out.mono ?_
    rintro e w2 h2
    obtain ⟨rfl, t2⟩ := h2.none_ HQ.out
    clear h2
    go_wp2_with fail
    exact ⟨rfl, ReadsTo.fail HA.out t2⟩
  · have hm : allD d1 l = timesD d1 n r0 := by unfold allD; rw [hq]
    have hn0 : n ≤ 1048576 := by
      obtain ⟨h1, _, h3⟩ := many_again hq
      have := congrArg List.length h1
      rw [List.length_append] at this
      omega
    have HQ := hid hq
    have HA := hid hm
    clear hq hm
    go_enter Try.func52, Try.ntmps52
    go_wp2_with fail
    refine HM.out.mono ?_
    rintro e w2 h2
    obtain ⟨v2, rfl, t2, hv2, hr2⟩ := h2.some_ HQ.out
    obtain rfl := hv2 w2 (Turn.refl _ _)
    have HS := hid (AllAt.start (k := 1) (T := 3) (R := R) (d1 := d1) (n := n) t2 hr2)
    clear h2 hv2 t2 hr2
    go_wp2_with fail
    go_loopw [5, 8] (fun v5 v8 wr => ∃ (i : Nat) (ys : List α) (xs : List Value) (r : Bt), v8 = .int .i64 (i : Int) ∧ i ≤ n ∧ AllAt 1 3 R d1 w bk B d n r0 wr v5 i ys xs r) (fun _ v8 _ => n - (intOf v8).toNat)
    case atStart => exact ⟨0, [], [], r0, rfl, by omega, HS.out⟩
    case round =>
      obtain ⟨i, ys, xs, r, rfl, hi, hat⟩ := hrel
      have HAT := hid hat
      clear hat
      by_cases hlt : i < n
      · have HN := hid (HONE.out wr r HAT.out.rd)
        rcases hx : d1 r with _ | ⟨x, r'⟩
        · have HX := hid hx
          clear hx
          go_wp2_with fail
          refine HN.out.mono ?_
          rintro e w2 h2
          obtain ⟨rfl, t2⟩ := h2.none_ HX.out
          clear h2
          go_wp2_with fail
          exact ⟨rfl, ReadsTo.fail (HA.out.trans (HAT.out.fail hlt HX.out)) (turn_same HAT.out.turn t2)⟩
        · have HX := hid hx
          clear hx
          go_wp2_with fail
          refine HN.out.mono ?_
          rintro e w2 h2
          obtain ⟨v12, rfl, t2, hp2, hr2⟩ := h2.some_ HX.out
          clear h2
          obtain ⟨n12, rfl⟩ := (hp2 w2 (Turn.refl _ _)).1
          have H1 : Hid (∀ u ∈ [Value.int .i64 n12], u.oneCell' = true) := hid (by intro u hu; rw [List.mem_singleton.1 hu]; rfl)
          have HP := hid (fun w'' t => (hp2 w'' t).2)
          have HR2 := hid hr2
          have HT2 := hid t2
          have hrow := HAT.out.row
          have hrow2 := own_turn hrow t2 (fun g hg e => by have := (hrow.lt g hg).1; omega)
          clear hp2 hr2 t2 hrow
          have HROW2 := hid hrow2
          have hsz2 : w.heap.size ≤ w2.heap.size := Nat.le_trans HAT.out.turn.size HT2.out.size
          have HIL := HAT.out.row.1
          clear hrow2
          go_wp2_with (at_builtin; go_must (refine wpList_app rfl (.tmp 10) (.tmp 13) _ rfl w.heap.size el_rd_int _ _ rfl rfl (HROW2.out.alloc _) (sl_new w2 _ _ 1 1 rfl (by decide)) H1.out (by simp [maxLen]; omega) (by simp; omega) (le_alloc hsz2 _) (fun v9 w9 n9 hown9 hg9 hbk9 => ?_)); have HS9 := hid (AllAt.step HAT.out hlt0 hlt HX.out HT2.out (z := [Value.int .i64 n12]) rfl HP.out HR2.out ((Below.refl _ _).alloc (Nat.le_refl _) _) hg9 (by have h9 := hown9.1; simp at h9 HIL; omega) hown9 hbk9); clear hown9 hg9 hbk9)
          refine ⟨⟨i + 1, _, _, _, rfl, by omega, HS9.out⟩, ?_⟩
          simp [intOf]; omega
      · go_wp2_with fail
        obtain rfl : i = n := by omega
        go_ret
        exact AllAt.done HAT.out HA.out

theorem el_rd_string : ElemIs Try.prog 23 9 (.string ⟨#[]⟩) 1 16 := ⟨Try.underlying23, by kernel_rfl, rfl, by decide⟩
set_option maxRecDepth 100000 in
set_option maxHeartbeats 2000000 in
theorem all_string_any {α : Type} (d1 : Bt → Option (α × Bt)) (R : World → List Value → α → Prop) (w : World) (bk B : Nat) (l : Bt) (d : Int) (hR : RdAt w bk B l d)
    (hone : ∀ w1 l1, RdAt w1 bk B l1 d → Calls Try.prog 66 #[.pointer (some ⟨bk, 0, none⟩)] w1 fun e w' => ReadsTo (El1 (fun v => ∃ s12, v = Value.string s12) R) bk B d w1 (d1 l1) e w') :
    Calls Try.prog 65 #[.pointer (some ⟨bk, 0, none⟩), .func (.func 66) #[.pointer (some ⟨bk, 0, none⟩)] #[]] w fun e w' => ReadsTo (ListP 1 R) bk B d w (allD d1 l) e w' := by
  have HM := hid (rdmany_any w bk B l d hR)
  have HONE := hid hone
  have hlt0 := hR.lt
  have hL0 := hR.2.1
  clear hR hone
  rcases hq : manyD l with _ | ⟨n, r0⟩
  · have hm : allD d1 l = none := by unfold allD; rw [hq]
    have HQ := hid hq
    have HA := hid hm
    clear hq hm
    go_enter Try.func65, Try.ntmps65
    go_wp2_with fail
    refine HM.out.mono ?_
    rintro e w2 h2
    obtain ⟨rfl, t2⟩ := h2.none_ HQ.out
    clear h2
    go_wp2_with fail
    exact ⟨rfl, ReadsTo.fail HA.out t2⟩
  · have hm : allD d1 l = timesD d1 n r0 := by unfold allD; rw [hq]
    have hn0 : n ≤ 1048576 := by
      obtain ⟨h1, _, h3⟩ := many_again hq
      have := congrArg List.length h1
      rw [List.length_append] at this
      omega
    have HQ := hid hq
    have HA := hid hm
    clear hq hm
    go_enter Try.func65, Try.ntmps65
    go_wp2_with fail
    refine HM.out.mono ?_
    rintro e w2 h2
    obtain ⟨v2, rfl, t2, hv2, hr2⟩ := h2.some_ HQ.out
    obtain rfl := hv2 w2 (Turn.refl _ _)
    have HS := hid (AllAt.start (k := 1) (T := 9) (R := R) (d1 := d1) (n := n) t2 hr2)
    clear h2 hv2 t2 hr2
    go_wp2_with fail
    go_loopw [5, 8] (fun v5 v8 wr => ∃ (i : Nat) (ys : List α) (xs : List Value) (r : Bt), v8 = .int .i64 (i : Int) ∧ i ≤ n ∧ AllAt 1 9 R d1 w bk B d n r0 wr v5 i ys xs r) (fun _ v8 _ => n - (intOf v8).toNat)
    case atStart => exact ⟨0, [], [], r0, rfl, by omega, HS.out⟩
    case round =>
      obtain ⟨i, ys, xs, r, rfl, hi, hat⟩ := hrel
      have HAT := hid hat
      clear hat
      by_cases hlt : i < n
      · have HN := hid (HONE.out wr r HAT.out.rd)
        rcases hx : d1 r with _ | ⟨x, r'⟩
        · have HX := hid hx
          clear hx
          go_wp2_with fail
          refine HN.out.mono ?_
          rintro e w2 h2
          obtain ⟨rfl, t2⟩ := h2.none_ HX.out
          clear h2
          go_wp2_with fail
          exact ⟨rfl, ReadsTo.fail (HA.out.trans (HAT.out.fail hlt HX.out)) (turn_same HAT.out.turn t2)⟩
        · have HX := hid hx
          clear hx
          go_wp2_with fail
          refine HN.out.mono ?_
          rintro e w2 h2
          obtain ⟨v12, rfl, t2, hp2, hr2⟩ := h2.some_ HX.out
          clear h2
          obtain ⟨s12, rfl⟩ := (hp2 w2 (Turn.refl _ _)).1
          have H1 : Hid (∀ u ∈ [Value.string s12], u.oneCell' = true) := hid (by intro u hu; rw [List.mem_singleton.1 hu]; rfl)
          have HP := hid (fun w'' t => (hp2 w'' t).2)
          have HR2 := hid hr2
          have HT2 := hid t2
          have hrow := HAT.out.row
          have hrow2 := own_turn hrow t2 (fun g hg e => by have := (hrow.lt g hg).1; omega)
          clear hp2 hr2 t2 hrow
          have HROW2 := hid hrow2
          have hsz2 : w.heap.size ≤ w2.heap.size := Nat.le_trans HAT.out.turn.size HT2.out.size
          have HIL := HAT.out.row.1
          clear hrow2
          go_wp2_with (at_builtin; go_must (refine wpList_app rfl (.tmp 10) (.tmp 13) _ rfl w.heap.size el_rd_string _ _ rfl rfl (HROW2.out.alloc _) (sl_new w2 _ _ 1 1 rfl (by decide)) H1.out (by simp [maxLen]; omega) (by simp; omega) (le_alloc hsz2 _) (fun v9 w9 n9 hown9 hg9 hbk9 => ?_)); have HS9 := hid (AllAt.step HAT.out hlt0 hlt HX.out HT2.out (z := [Value.string s12]) rfl HP.out HR2.out ((Below.refl _ _).alloc (Nat.le_refl _) _) hg9 (by have h9 := hown9.1; simp at h9 HIL; omega) hown9 hbk9); clear hown9 hg9 hbk9)
          refine ⟨⟨i + 1, _, _, _, rfl, by omega, HS9.out⟩, ?_⟩
          simp [intOf]; omega
      · go_wp2_with fail
        obtain rfl : i = n := by omega
        go_ret
        exact AllAt.done HAT.out HA.out

theorem el_rd_need : ElemIs Try.prog 40 84 (.agg #[.string ⟨#[]⟩, .int .i64 0]) 2 24 := ⟨Try.underlying40, by kernel_rfl, rfl, by decide⟩
set_option maxRecDepth 100000 in
set_option maxHeartbeats 2000000 in
theorem all_need_any {α : Type} (d1 : Bt → Option (α × Bt)) (R : World → List Value → α → Prop) (w : World) (bk B : Nat) (l : Bt) (d : Int) (hR : RdAt w bk B l d)
    (hone : ∀ w1 l1, RdAt w1 bk B l1 d → Calls Try.prog 68 #[.pointer (some ⟨bk, 0, none⟩)] w1 fun e w' => ReadsTo (ElK 2 R) bk B d w1 (d1 l1) e w') :
    Calls Try.prog 67 #[.pointer (some ⟨bk, 0, none⟩), .func (.func 68) #[.pointer (some ⟨bk, 0, none⟩)] #[]] w fun e w' => ReadsTo (ListP 2 R) bk B d w (allD d1 l) e w' := by
  have HM := hid (rdmany_any w bk B l d hR)
  have HONE := hid hone
  have hlt0 := hR.lt
  have hL0 := hR.2.1
  clear hR hone
  rcases hq : manyD l with _ | ⟨n, r0⟩
  · have hm : allD d1 l = none := by unfold allD; rw [hq]
    have HQ := hid hq
    have HA := hid hm
    clear hq hm
    go_enter Try.func67, Try.ntmps67
    go_wp2_with fail
    refine HM.out.mono ?_
    rintro e w2 h2
    obtain ⟨rfl, t2⟩ := h2.none_ HQ.out
    clear h2
    go_wp2_with fail
    exact ⟨rfl, ReadsTo.fail HA.out t2⟩
  · have hm : allD d1 l = timesD d1 n r0 := by unfold allD; rw [hq]
    have hn0 : n ≤ 1048576 := by
      obtain ⟨h1, _, h3⟩ := many_again hq
      have := congrArg List.length h1
      rw [List.length_append] at this
      omega
    have HQ := hid hq
    have HA := hid hm
    clear hq hm
    go_enter Try.func67, Try.ntmps67
    go_wp2_with fail
    refine HM.out.mono ?_
    rintro e w2 h2
    obtain ⟨v2, rfl, t2, hv2, hr2⟩ := h2.some_ HQ.out
    obtain rfl := hv2 w2 (Turn.refl _ _)
    have HS := hid (AllAt.start (k := 2) (T := 84) (R := R) (d1 := d1) (n := n) t2 hr2)
    clear h2 hv2 t2 hr2
    go_wp2_with fail
    go_loopw [5, 8] (fun v5 v8 wr => ∃ (i : Nat) (ys : List α) (xs : List Value) (r : Bt), v8 = .int .i64 (i : Int) ∧ i ≤ n ∧ AllAt 2 84 R d1 w bk B d n r0 wr v5 i ys xs r) (fun _ v8 _ => n - (intOf v8).toNat)
    case atStart => exact ⟨0, [], [], r0, rfl, by omega, HS.out⟩
    case round =>
      obtain ⟨i, ys, xs, r, rfl, hi, hat⟩ := hrel
      have HAT := hid hat
      clear hat
      by_cases hlt : i < n
      · have HN := hid (HONE.out wr r HAT.out.rd)
        rcases hx : d1 r with _ | ⟨x, r'⟩
        · have HX := hid hx
          clear hx
          go_wp2_with fail
          refine HN.out.mono ?_
          rintro e w2 h2
          obtain ⟨rfl, t2⟩ := h2.none_ HX.out
          clear h2
          go_wp2_with fail
          exact ⟨rfl, ReadsTo.fail (HA.out.trans (HAT.out.fail hlt HX.out)) (turn_same HAT.out.turn t2)⟩
        · have HX := hid hx
          clear hx
          go_wp2_with fail
          refine HN.out.mono ?_
          rintro e w2 h2
          obtain ⟨v12, rfl, t2, hp2, hr2⟩ := h2.some_ HX.out
          clear h2
          obtain ⟨z, rfl, hz, hone1, hp⟩ := ElK.all (G := fun w'' => Turn (fun k => k < wr.heap.size) w2 w'') (Turn.refl _ _) hp2
          obtain ⟨x0, x1, rfl⟩ : ∃ x0 x1, z = [x0, x1] := len_2 hz
          have HP := hid hp
          have H1 := hid hone1
          clear hone1 hp
          have HR2 := hid hr2
          have HT2 := hid t2
          have hrow := HAT.out.row
          have hrow2 := own_turn hrow t2 (fun g hg e => by have := (hrow.lt g hg).1; omega)
          clear hp2 hr2 t2 hrow
          have HROW2 := hid hrow2
          have hsz2 : w.heap.size ≤ w2.heap.size := Nat.le_trans HAT.out.turn.size HT2.out.size
          have HIL := HAT.out.row.1
          clear hrow2
          go_wp2_with (at_builtin; go_must (refine wpList_app rfl (.tmp 10) (.tmp 13) _ rfl w.heap.size el_rd_need _ _ rfl rfl (HROW2.out.alloc _) (sl_new w2 _ _ 2 1 rfl (by decide)) H1.out (by simp [maxLen]; omega) (by simp; omega) (le_alloc hsz2 _) (fun v9 w9 n9 hown9 hg9 hbk9 => ?_)); have HS9 := hid (AllAt.step HAT.out hlt0 hlt HX.out HT2.out (z := [x0, x1]) rfl HP.out HR2.out ((Below.refl _ _).alloc (Nat.le_refl _) _) hg9 (by have h9 := hown9.1; simp at h9 HIL; omega) hown9 hbk9); clear hown9 hg9 hbk9)
          refine ⟨⟨i + 1, _, _, _, rfl, by omega, HS9.out⟩, ?_⟩
          simp [intOf]; omega
      · go_wp2_with fail
        obtain rfl : i = n := by omega
        go_ret
        exact AllAt.done HAT.out HA.out

theorem el_rd_texts : ElemIs Try.prog 24 23 (.slice none 0 0) 1 24 := ⟨Try.underlying24, by kernel_rfl, rfl, by decide⟩
set_option maxRecDepth 100000 in
set_option maxHeartbeats 2000000 in
theorem all_texts_any {α : Type} (d1 : Bt → Option (α × Bt)) (R : World → List Value → α → Prop) (w : World) (bk B : Nat) (l : Bt) (d : Int) (hR : RdAt w bk B l d)
    (hone : ∀ w1 l1, RdAt w1 bk B l1 d → Calls Try.prog 53 #[.pointer (some ⟨bk, 0, none⟩)] w1 fun e w' => ReadsTo (El1 (fun v => ∃ A12 m12 c12, v = Value.slice A12 m12 c12) R) bk B d w1 (d1 l1) e w') :
    Calls Try.prog 54 #[.pointer (some ⟨bk, 0, none⟩), .func (.func 53) #[.pointer (some ⟨bk, 0, none⟩)] #[]] w fun e w' => ReadsTo (ListP 1 R) bk B d w (allD d1 l) e w' := by
  have HM := hid (rdmany_any w bk B l d hR)
  have HONE := hid hone
  have hlt0 := hR.lt
  have hL0 := hR.2.1
  clear hR hone
  rcases hq : manyD l with _ | ⟨n, r0⟩
  · have hm : allD d1 l = none := by unfold allD; rw [hq]
    have HQ := hid hq
    have HA := hid hm
    clear hq hm
    go_enter Try.func54, Try.ntmps54
    go_wp2_with fail
    refine HM.out.mono ?_
    rintro e w2 h2
    obtain ⟨rfl, t2⟩ := h2.none_ HQ.out
    clear h2
    go_wp2_with fail
    exact ⟨rfl, ReadsTo.fail HA.out t2⟩
  · have hm : allD d1 l = timesD d1 n r0 := by unfold allD; rw [hq]
    have hn0 : n ≤ 1048576 := by
      obtain ⟨h1, _, h3⟩ := many_again hq
      have := congrArg List.length h1
      rw [List.length_append] at this
      omega
    have HQ := hid hq
    have HA := hid hm
    clear hq hm
    go_enter Try.func54, Try.ntmps54
    go_wp2_with fail
    refine HM.out.mono ?_
    rintro e w2 h2
    obtain ⟨v2, rfl, t2, hv2, hr2⟩ := h2.some_ HQ.out
    obtain rfl := hv2 w2 (Turn.refl _ _)
    have HS := hid (AllAt.start (k := 1) (T := 23) (R := R) (d1 := d1) (n := n) t2 hr2)
    clear h2 hv2 t2 hr2
    go_wp2_with fail
    go_loopw [5, 8] (fun v5 v8 wr => ∃ (i : Nat) (ys : List α) (xs : List Value) (r : Bt), v8 = .int .i64 (i : Int) ∧ i ≤ n ∧ AllAt 1 23 R d1 w bk B d n r0 wr v5 i ys xs r) (fun _ v8 _ => n - (intOf v8).toNat)
    case atStart => exact ⟨0, [], [], r0, rfl, by omega, HS.out⟩
    case round =>
      obtain ⟨i, ys, xs, r, rfl, hi, hat⟩ := hrel
      have HAT := hid hat
      clear hat
      by_cases hlt : i < n
      · have HN := hid (HONE.out wr r HAT.out.rd)
        rcases hx : d1 r with _ | ⟨x, r'⟩
        · have HX := hid hx
          clear hx
          go_wp2_with fail
          refine HN.out.mono ?_
          rintro e w2 h2
          obtain ⟨rfl, t2⟩ := h2.none_ HX.out
          clear h2
          go_wp2_with fail
          exact ⟨rfl, ReadsTo.fail (HA.out.trans (HAT.out.fail hlt HX.out)) (turn_same HAT.out.turn t2)⟩
        · have HX := hid hx
          clear hx
          go_wp2_with fail
          refine HN.out.mono ?_
          rintro e w2 h2
          obtain ⟨v12, rfl, t2, hp2, hr2⟩ := h2.some_ HX.out
          clear h2
          obtain ⟨A12, m12, c12, rfl⟩ := (hp2 w2 (Turn.refl _ _)).1
          have H1 : Hid (∀ u ∈ [Value.slice A12 m12 c12], u.oneCell' = true) := hid (by intro u hu; rw [List.mem_singleton.1 hu]; rfl)
          have HP := hid (fun w'' t => (hp2 w'' t).2)
          have HR2 := hid hr2
          have HT2 := hid t2
          have hrow := HAT.out.row
          have hrow2 := own_turn hrow t2 (fun g hg e => by have := (hrow.lt g hg).1; omega)
          clear hp2 hr2 t2 hrow
          have HROW2 := hid hrow2
          have hsz2 : w.heap.size ≤ w2.heap.size := Nat.le_trans HAT.out.turn.size HT2.out.size
          have HIL := HAT.out.row.1
          clear hrow2
          go_wp2_with (at_builtin; go_must (refine wpList_app rfl (.tmp 10) (.tmp 13) _ rfl w.heap.size el_rd_texts _ _ rfl rfl (HROW2.out.alloc _) (sl_new w2 _ _ 1 1 rfl (by decide)) H1.out (by simp [maxLen]; omega) (by simp; omega) (le_alloc hsz2 _) (fun v9 w9 n9 hown9 hg9 hbk9 => ?_)); have HS9 := hid (AllAt.step HAT.out hlt0 hlt HX.out HT2.out (z := [Value.slice A12 m12 c12]) rfl HP.out HR2.out ((Below.refl _ _).alloc (Nat.le_refl _) _) hg9 (by have h9 := hown9.1; simp at h9 HIL; omega) hown9 hbk9); clear hown9 hg9 hbk9)
          refine ⟨⟨i + 1, _, _, _, rfl, by omega, HS9.out⟩, ?_⟩
          simp [intOf]; omega
      · go_wp2_with fail
        obtain rfl : i = n := by omega
        go_ret
        exact AllAt.done HAT.out HA.out

theorem el_rd_co : ElemIs Try.prog 25 42 (.agg #[.slice none 0 0, .slice none 0 0, .slice none 0 0, .slice none 0 0, .slice none 0 0]) 5 120 := ⟨Try.underlying25, by kernel_rfl, rfl, by decide⟩
set_option maxRecDepth 100000 in
set_option maxHeartbeats 2000000 in
theorem all_co_any {α : Type} (d1 : Bt → Option (α × Bt)) (R : World → List Value → α → Prop) (w : World) (bk B : Nat) (l : Bt) (d : Int) (hR : RdAt w bk B l d)
    (hone : ∀ w1 l1, RdAt w1 bk B l1 d → Calls Try.prog 56 #[.pointer (some ⟨bk, 0, none⟩)] w1 fun e w' => ReadsTo (ElK 5 R) bk B d w1 (d1 l1) e w') :
    Calls Try.prog 55 #[.pointer (some ⟨bk, 0, none⟩), .func (.func 56) #[.pointer (some ⟨bk, 0, none⟩)] #[]] w fun e w' => ReadsTo (ListP 5 R) bk B d w (allD d1 l) e w' := by
  have HM := hid (rdmany_any w bk B l d hR)
  have HONE := hid hone
  have hlt0 := hR.lt
  have hL0 := hR.2.1
  clear hR hone
  rcases hq : manyD l with _ | ⟨n, r0⟩
  · have hm : allD d1 l = none := by unfold allD; rw [hq]
    have HQ := hid hq
    have HA := hid hm
    clear hq hm
    go_enter Try.func55, Try.ntmps55
    go_wp2_with fail
    refine HM.out.mono ?_
    rintro e w2 h2
    obtain ⟨rfl, t2⟩ := h2.none_ HQ.out
    clear h2
    go_wp2_with fail
    exact ⟨rfl, ReadsTo.fail HA.out t2⟩
  · have hm : allD d1 l = timesD d1 n r0 := by unfold allD; rw [hq]
    have hn0 : n ≤ 1048576 := by
      obtain ⟨h1, _, h3⟩ := many_again hq
      have := congrArg List.length h1
      rw [List.length_append] at this
      omega
    have HQ := hid hq
    have HA := hid hm
    clear hq hm
    go_enter Try.func55, Try.ntmps55
    go_wp2_with fail
    refine HM.out.mono ?_
    rintro e w2 h2
    obtain ⟨v2, rfl, t2, hv2, hr2⟩ := h2.some_ HQ.out
    obtain rfl := hv2 w2 (Turn.refl _ _)
    have HS := hid (AllAt.start (k := 5) (T := 42) (R := R) (d1 := d1) (n := n) t2 hr2)
    clear h2 hv2 t2 hr2
    go_wp2_with fail
    go_loopw [5, 8] (fun v5 v8 wr => ∃ (i : Nat) (ys : List α) (xs : List Value) (r : Bt), v8 = .int .i64 (i : Int) ∧ i ≤ n ∧ AllAt 5 42 R d1 w bk B d n r0 wr v5 i ys xs r) (fun _ v8 _ => n - (intOf v8).toNat)
    case atStart => exact ⟨0, [], [], r0, rfl, by omega, HS.out⟩
    case round =>
      obtain ⟨i, ys, xs, r, rfl, hi, hat⟩ := hrel
      have HAT := hid hat
      clear hat
      by_cases hlt : i < n
      · have HN := hid (HONE.out wr r HAT.out.rd)
        rcases hx : d1 r with _ | ⟨x, r'⟩
        · have HX := hid hx
          clear hx
          go_wp2_with fail
          refine HN.out.mono ?_
          rintro e w2 h2
          obtain ⟨rfl, t2⟩ := h2.none_ HX.out
          clear h2
          go_wp2_with fail
          exact ⟨rfl, ReadsTo.fail (HA.out.trans (HAT.out.fail hlt HX.out)) (turn_same HAT.out.turn t2)⟩
        · have HX := hid hx
          clear hx
          go_wp2_with fail
          refine HN.out.mono ?_
          rintro e w2 h2
          obtain ⟨v12, rfl, t2, hp2, hr2⟩ := h2.some_ HX.out
          clear h2
          obtain ⟨z, rfl, hz, hone1, hp⟩ := ElK.all (G := fun w'' => Turn (fun k => k < wr.heap.size) w2 w'') (Turn.refl _ _) hp2
          obtain ⟨x0, x1, x2, x3, x4, rfl⟩ : ∃ x0 x1 x2 x3 x4, z = [x0, x1, x2, x3, x4] := len_5 hz
          have HP := hid hp
          have H1 := hid hone1
          clear hone1 hp
          have HR2 := hid hr2
          have HT2 := hid t2
          have hrow := HAT.out.row
          have hrow2 := own_turn hrow t2 (fun g hg e => by have := (hrow.lt g hg).1; omega)
          clear hp2 hr2 t2 hrow
          have HROW2 := hid hrow2
          have hsz2 : w.heap.size ≤ w2.heap.size := Nat.le_trans HAT.out.turn.size HT2.out.size
          have HIL := HAT.out.row.1
          clear hrow2
          go_wp2_with (at_builtin; go_must (refine wpList_app rfl (.tmp 10) (.tmp 13) _ rfl w.heap.size el_rd_co _ _ rfl rfl (HROW2.out.alloc _) (sl_new w2 _ _ 5 1 rfl (by decide)) H1.out (by simp [maxLen]; omega) (by simp; omega) (le_alloc hsz2 _) (fun v9 w9 n9 hown9 hg9 hbk9 => ?_)); have HS9 := hid (AllAt.step HAT.out hlt0 hlt HX.out HT2.out (z := [x0, x1, x2, x3, x4]) rfl HP.out HR2.out ((Below.refl _ _).alloc (Nat.le_refl _) _) hg9 (by have h9 := hown9.1; simp at h9 HIL; omega) hown9 hbk9); clear hown9 hg9 hbk9)
          refine ⟨⟨i + 1, _, _, _, rfl, by omega, HS9.out⟩, ?_⟩
          simp [intOf]; omega
      · go_wp2_with fail
        obtain rfl : i = n := by omega
        go_ret
        exact AllAt.done HAT.out HA.out

theorem el_rd_proc : ElemIs Try.prog 26 47 (.agg #[.int .i64 0, .int .i64 0, .slice none 0 0]) 3 40 := ⟨Try.underlying26, by kernel_rfl, rfl, by decide⟩
set_option maxRecDepth 100000 in
set_option maxHeartbeats 2000000 in
theorem all_proc_any {α : Type} (d1 : Bt → Option (α × Bt)) (R : World → List Value → α → Prop) (w : World) (bk B : Nat) (l : Bt) (d : Int) (hR : RdAt w bk B l d)
    (hone : ∀ w1 l1, RdAt w1 bk B l1 d → Calls Try.prog 58 #[.pointer (some ⟨bk, 0, none⟩)] w1 fun e w' => ReadsTo (ElK 3 R) bk B d w1 (d1 l1) e w') :
    Calls Try.prog 57 #[.pointer (some ⟨bk, 0, none⟩), .func (.func 58) #[.pointer (some ⟨bk, 0, none⟩)] #[]] w fun e w' => ReadsTo (ListP 3 R) bk B d w (allD d1 l) e w' := by
  have HM := hid (rdmany_any w bk B l d hR)
  have HONE := hid hone
  have hlt0 := hR.lt
  have hL0 := hR.2.1
  clear hR hone
  rcases hq : manyD l with _ | ⟨n, r0⟩
  · have hm : allD d1 l = none := by unfold allD; rw [hq]
    have HQ := hid hq
    have HA := hid hm
    clear hq hm
    go_enter Try.func57, Try.ntmps57
    go_wp2_with fail
    refine HM.out.mono ?_
    rintro e w2 h2
    obtain ⟨rfl, t2⟩ := h2.none_ HQ.out
    clear h2
    go_wp2_with fail
    exact ⟨rfl, ReadsTo.fail HA.out t2⟩
  · have hm : allD d1 l = timesD d1 n r0 := by unfold allD; rw [hq]
    have hn0 : n ≤ 1048576 := by
      obtain ⟨h1, _, h3⟩ := many_again hq
      have := congrArg List.length h1
      rw [List.length_append] at this
      omega
    have HQ := hid hq
    have HA := hid hm
    clear hq hm
    go_enter Try.func57, Try.ntmps57
    go_wp2_with fail
    refine HM.out.mono ?_
    rintro e w2 h2
    obtain ⟨v2, rfl, t2, hv2, hr2⟩ := h2.some_ HQ.out
    obtain rfl := hv2 w2 (Turn.refl _ _)
    have HS := hid (AllAt.start (k := 3) (T := 47) (R := R) (d1 := d1) (n := n) t2 hr2)
    clear h2 hv2 t2 hr2
    go_wp2_with fail
    go_loopw [5, 8] (fun v5 v8 wr => ∃ (i : Nat) (ys : List α) (xs : List Value) (r : Bt), v8 = .int .i64 (i : Int) ∧ i ≤ n ∧ AllAt 3 47 R d1 w bk B d n r0 wr v5 i ys xs r) (fun _ v8 _ => n - (intOf v8).toNat)
    case atStart => exact ⟨0, [], [], r0, rfl, by omega, HS.out⟩
    case round =>
      obtain ⟨i, ys, xs, r, rfl, hi, hat⟩ := hrel
      have HAT := hid hat
      clear hat
      by_cases hlt : i < n
      · have HN := hid (HONE.out wr r HAT.out.rd)
        rcases hx : d1 r with _ | ⟨x, r'⟩
        · have HX := hid hx
          clear hx
          go_wp2_with fail
          refine HN.out.mono ?_
          rintro e w2 h2
          obtain ⟨rfl, t2⟩ := h2.none_ HX.out
          clear h2
          go_wp2_with fail
          exact ⟨rfl, ReadsTo.fail (HA.out.trans (HAT.out.fail hlt HX.out)) (turn_same HAT.out.turn t2)⟩
        · have HX := hid hx
          clear hx
          go_wp2_with fail
          refine HN.out.mono ?_
          rintro e w2 h2
          obtain ⟨v12, rfl, t2, hp2, hr2⟩ := h2.some_ HX.out
          clear h2
          obtain ⟨z, rfl, hz, hone1, hp⟩ := ElK.all (G := fun w'' => Turn (fun k => k < wr.heap.size) w2 w'') (Turn.refl _ _) hp2
          obtain ⟨x0, x1, x2, rfl⟩ : ∃ x0 x1 x2, z = [x0, x1, x2] := len_3 hz
          have HP := hid hp
          have H1 := hid hone1
          clear hone1 hp
          have HR2 := hid hr2
          have HT2 := hid t2
          have hrow := HAT.out.row
          have hrow2 := own_turn hrow t2 (fun g hg e => by have := (hrow.lt g hg).1; omega)
          clear hp2 hr2 t2 hrow
          have HROW2 := hid hrow2
          have hsz2 : w.heap.size ≤ w2.heap.size := Nat.le_trans HAT.out.turn.size HT2.out.size
          have HIL := HAT.out.row.1
          clear hrow2
          go_wp2_with (at_builtin; go_must (refine wpList_app rfl (.tmp 10) (.tmp 13) _ rfl w.heap.size el_rd_proc _ _ rfl rfl (HROW2.out.alloc _) (sl_new w2 _ _ 3 1 rfl (by decide)) H1.out (by simp [maxLen]; omega) (by simp; omega) (le_alloc hsz2 _) (fun v9 w9 n9 hown9 hg9 hbk9 => ?_)); have HS9 := hid (AllAt.step HAT.out hlt0 hlt HX.out HT2.out (z := [x0, x1, x2]) rfl HP.out HR2.out ((Below.refl _ _).alloc (Nat.le_refl _) _) hg9 (by have h9 := hown9.1; simp at h9 HIL; omega) hown9 hbk9); clear hown9 hg9 hbk9)
          refine ⟨⟨i + 1, _, _, _, rfl, by omega, HS9.out⟩, ?_⟩
          simp [intOf]; omega
      · go_wp2_with fail
        obtain rfl : i = n := by omega
        go_ret
        exact AllAt.done HAT.out HA.out

theorem el_rd_instr : ElemIs Try.prog 45 64 (.agg #[.int .i64 0, .int .i64 0, .int .i64 0, .int .i64 0]) 4 32 := ⟨Try.underlying45, by kernel_rfl, rfl, by decide⟩
set_option maxRecDepth 100000 in
set_option maxHeartbeats 2000000 in
theorem all_instr_any {α : Type} (d1 : Bt → Option (α × Bt)) (R : World → List Value → α → Prop) (w : World) (bk B : Nat) (l : Bt) (d : Int) (hR : RdAt w bk B l d)
    (hone : ∀ w1 l1, RdAt w1 bk B l1 d → Calls Try.prog 70 #[.pointer (some ⟨bk, 0, none⟩)] w1 fun e w' => ReadsTo (ElK 4 R) bk B d w1 (d1 l1) e w') :
    Calls Try.prog 69 #[.pointer (some ⟨bk, 0, none⟩), .func (.func 70) #[.pointer (some ⟨bk, 0, none⟩)] #[]] w fun e w' => ReadsTo (ListP 4 R) bk B d w (allD d1 l) e w' := by
  have HM := hid (rdmany_any w bk B l d hR)
  have HONE := hid hone
  have hlt0 := hR.lt
  have hL0 := hR.2.1
  clear hR hone
  rcases hq : manyD l with _ | ⟨n, r0⟩
  · have hm : allD d1 l = none := by unfold allD; rw [hq]
    have HQ := hid hq
    have HA := hid hm
    clear hq hm
    go_enter Try.func69, Try.ntmps69
    go_wp2_with fail
    refine HM.out.mono ?_
    rintro e w2 h2
    obtain ⟨rfl, t2⟩ := h2.none_ HQ.out
    clear h2
    go_wp2_with fail
    exact ⟨rfl, ReadsTo.fail HA.out t2⟩
  · have hm : allD d1 l = timesD d1 n r0 := by unfold allD; rw [hq]
    have hn0 : n ≤ 1048576 := by
      obtain ⟨h1, _, h3⟩ := many_again hq
      have := congrArg List.length h1
      rw [List.length_append] at this
      omega
    have HQ := hid hq
    have HA := hid hm
    clear hq hm
    go_enter Try.func69, Try.ntmps69
    go_wp2_with fail
    refine HM.out.mono ?_
    rintro e w2 h2
    obtain ⟨v2, rfl, t2, hv2, hr2⟩ := h2.some_ HQ.out
    obtain rfl := hv2 w2 (Turn.refl _ _)
    have HS := hid (AllAt.start (k := 4) (T := 64) (R := R) (d1 := d1) (n := n) t2 hr2)
    clear h2 hv2 t2 hr2
    go_wp2_with fail
    go_loopw [5, 8] (fun v5 v8 wr => ∃ (i : Nat) (ys : List α) (xs : List Value) (r : Bt), v8 = .int .i64 (i : Int) ∧ i ≤ n ∧ AllAt 4 64 R d1 w bk B d n r0 wr v5 i ys xs r) (fun _ v8 _ => n - (intOf v8).toNat)
    case atStart => exact ⟨0, [], [], r0, rfl, by omega, HS.out⟩
    case round =>
      obtain ⟨i, ys, xs, r, rfl, hi, hat⟩ := hrel
      have HAT := hid hat
      clear hat
      by_cases hlt : i < n
      · have HN := hid (HONE.out wr r HAT.out.rd)
        rcases hx : d1 r with _ | ⟨x, r'⟩
        · have HX := hid hx
          clear hx
          go_wp2_with fail
          refine HN.out.mono ?_
          rintro e w2 h2
          obtain ⟨rfl, t2⟩ := h2.none_ HX.out
          clear h2
          go_wp2_with fail
          exact ⟨rfl, ReadsTo.fail (HA.out.trans (HAT.out.fail hlt HX.out)) (turn_same HAT.out.turn t2)⟩
        · have HX := hid hx
          clear hx
          go_wp2_with fail
          refine HN.out.mono ?_
          rintro e w2 h2
          obtain ⟨v12, rfl, t2, hp2, hr2⟩ := h2.some_ HX.out
          clear h2
          obtain ⟨z, rfl, hz, hone1, hp⟩ := ElK.all (G := fun w'' => Turn (fun k => k < wr.heap.size) w2 w'') (Turn.refl _ _) hp2
          obtain ⟨x0, x1, x2, x3, rfl⟩ : ∃ x0 x1 x2 x3, z = [x0, x1, x2, x3] := len_4 hz
          have HP := hid hp
          have H1 := hid hone1
          clear hone1 hp
          have HR2 := hid hr2
          have HT2 := hid t2
          have hrow := HAT.out.row
          have hrow2 := own_turn hrow t2 (fun g hg e => by have := (hrow.lt g hg).1; omega)
          clear hp2 hr2 t2 hrow
          have HROW2 := hid hrow2
          have hsz2 : w.heap.size ≤ w2.heap.size := Nat.le_trans HAT.out.turn.size HT2.out.size
          have HIL := HAT.out.row.1
          clear hrow2
          go_wp2_with (at_builtin; go_must (refine wpList_app rfl (.tmp 10) (.tmp 13) _ rfl w.heap.size el_rd_instr _ _ rfl rfl (HROW2.out.alloc _) (sl_new w2 _ _ 4 1 rfl (by decide)) H1.out (by simp [maxLen]; omega) (by simp; omega) (le_alloc hsz2 _) (fun v9 w9 n9 hown9 hg9 hbk9 => ?_)); have HS9 := hid (AllAt.step HAT.out hlt0 hlt HX.out HT2.out (z := [x0, x1, x2, x3]) rfl HP.out HR2.out ((Below.refl _ _).alloc (Nat.le_refl _) _) hg9 (by have h9 := hown9.1; simp at h9 HIL; omega) hown9 hbk9); clear hown9 hg9 hbk9)
          refine ⟨⟨i + 1, _, _, _, rfl, by omega, HS9.out⟩, ?_⟩
          simp [intOf]; omega
      · go_wp2_with fail
        obtain rfl : i = n := by omega
        go_ret
        exact AllAt.done HAT.out HA.out
end Go.Proofs.Ytpnggkkfoipfhaa
