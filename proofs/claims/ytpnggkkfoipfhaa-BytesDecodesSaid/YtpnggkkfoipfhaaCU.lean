/- The reference's reader of bytes: lists. -/
import Derived.Test.YtpnggkkfoipfhaaCT
set_option linter.unusedVariables false
namespace Go.Proofs.Ytpnggkkfoipfhaa
open Go.RowKit

/-- Where a loop stands that has not gone bad: i elements of n have been read; nothing has turned but F. -/
structure LoA {α : Type} (k : Nat) (T : TypeId) (R : World → List Value → α → Prop) (d1 : Bt → Option (α × Bt)) (F : Nat → Prop) (w0 : World) (bk B : Nat) (n : Nat) (q : Option (List α × Bt)) (wr : World) (v : Value) (i : Nat) (ys : List α) (xs : List Value) (r : Bt) : Prop where
  len : ys.length = i
  turn : Turn F w0 wr
  row : wr.ownsRow w0.heap.size T k v i xs
  rd : RsAt wr bk B r false
  all : ∀ w'', Turn (fun j => j < w0.heap.size ∨ v.ownBlock = some j) wr w'' → RowR R k w'' xs ys
  eq : q = (timesD d1 (n - i) r).map (fun p => (ys ++ p.1, p.2))
/-- One that has gone bad. -/
structure LoB {α : Type} (F : Nat → Prop) (w0 : World) (bk B : Nat) (q : Option (List α × Bt)) (wr : World) (v : Value) : Prop where
  turn : Turn F w0 wr
  rd : ∃ l, RsAt wr bk B l true
  shape : ∃ A m c, v = .slice A m c
  eq : q = none
/-- Either. -/
def LoS {α : Type} (k : Nat) (T : TypeId) (R : World → List Value → α → Prop) (d1 : Bt → Option (α × Bt)) (F : Nat → Prop) (w0 : World) (bk B : Nat) (n : Nat) (q : Option (List α × Bt)) (wr : World) (v : Value) (i : Nat) : Prop :=
  (∃ ys xs r, LoA k T R d1 F w0 bk B n q wr v i ys xs r) ∨ LoB F w0 bk B q wr v
def IsSlice (v : Value) : Prop := ∃ A m c, v = .slice A m c
section
variable {α : Type} {k : Nat} {T : TypeId} {R : World → List Value → α → Prop} {d1 : Bt → Option (α × Bt)} {F : Nat → Prop} {w0 w w2 : World} {bk B n : Nat} {q : Option (List α × Bt)} {wr : World} {v v2 : Value} {i : Nat}
theorem lo_start {σ : Option Bt} (h2 : SobR (fun _ v (x : Nat) => v = .int .i64 (x : Int)) (fun v => v = .int .i64 0) bk B w (σ.bind manyD) v2 w2) (t : Turn F w0 w2) :
    ∃ N : Nat, v2 = .int .i64 (N : Int) ∧ N ≤ 1048576 ∧ LoS k T R d1 F w0 bk B N (σ.bind (allD d1)) w2 (.slice none 0 0) 0 := by
  rcases hq : σ.bind manyD with _ | ⟨N, r⟩
  · obtain ⟨rfl, hr⟩ := h2.none_ hq
    refine ⟨0, rfl, by omega, .inr ⟨t, hr, ⟨_, _, _, rfl⟩, ?_⟩⟩
    cases σ with
    | none => rfl
    | some l =>
      have hq : manyD l = none := hq
      show allD d1 l = none
      unfold allD; rw [hq]
  · obtain ⟨hv, hr⟩ := h2.some_ hq
    cases σ with
    | none => cases hq
    | some l =>
      have hq : manyD l = some (N, r) := hq
      refine ⟨N, hv w2 (Turn.refl _ _), by have := (many_again hq).2.2; have := hr.2.1; omega, .inl ⟨[], [], r, rfl, t, World.ownsRow_nil _ _ _ _, hr, fun _ _ => .nil, ?_⟩⟩
      show allD d1 l = _
      rw [Nat.sub_zero]
      unfold allD; rw [hq]
      simp only
      cases timesD d1 N r with
      | none => rfl
      | some p => rfl
theorem lo_next {ys : List α} {xs : List Value} {r : Bt} (h : LoA k T R d1 F w0 bk B n q wr v i ys xs r) (hF : ∀ j, F j → j < w0.heap.size) (hFb : F bk) (hi : i < n) {P : World → Value → α → Prop} {Z : Value → Prop} {ve : Value} {w1 : World} (h2 : SobR P Z bk B wr (d1 r) ve w1) {w5 w9 : World} {z : List Value} {v9 : Value} {i9 : Nat}
    (hz : z.length = k) (hP : ∀ w x, P w ve x → R w z x) (hb : Below w1.heap.size w1 w5) (hg : w5.grownBy w9 v.ownBlock) (hi9 : i9 = i + 1) (hown : w9.ownsRow w0.heap.size T k v9 i9 (xs ++ z)) (hk : v9.ownBlock = v.ownBlock ∨ v9.ownBlock = some w5.heap.size) :
    LoS k T R d1 F w0 bk B n q w9 v9 (i + 1) := by
  subst hi9
  have t1 := h2.1
  have hrow := h.row.lt
  have hs1 := t1.size
  have hs5 := hb.size
  have hsw := h.turn.size
  have hbk := h2.rs.lt
  have hbw := hF _ hFb
  have hbase := h2.rs.base
  have t9 : Turn (fun j => v.ownBlock = some j) w1 w9 := (Turn.of_below hb).trans (Turn.of_grown hg (fun j hj => hj)) (fun _ _ h => h)
  have hold : ∀ (w'' : World), Turn (fun j => j < w0.heap.size ∨ v9.ownBlock = some j) w9 w'' → Turn (fun j => j < w0.heap.size ∨ v.ownBlock = some j) w1 w'' := by
    intro w'' t
    refine (t9.mono (fun j _ hj => .inr hj)).trans t (fun j hj hG => ?_)
    rcases hG with hG | hG
    · exact .inl hG
    · rcases hk with hk | hk
      · exact .inr (hk ▸ hG)
      · rw [hk] at hG; injection hG with hG; omega
  have htur : Turn F w0 w9 := by
    refine (h.turn.trans (t1.mono fun j _ hj => (by rw [hj]; exact hFb : F j)) (fun _ _ h => h)).trans t9 (fun j hj hG => ?_)
    have := (hrow j hG).1
    omega
  have hrs : ∀ {σ}, RsO w1 bk B σ → RsO w9 bk B σ := fun hr => hr.turn t9 (fun e => by have := (hrow _ e).1; omega) (fun j hj e => by have := (hrow _ e).1; omega)
  rcases hx : d1 r with _ | ⟨x, r'⟩
  · refine .inr ⟨htur, hrs (σ := none) (h2.none_ hx).2, sl_shape (Sl.of_own hown), ?_⟩
    rw [h.eq]
    obtain ⟨m, hm⟩ : ∃ m, n - i = m + 1 := ⟨n - i - 1, by omega⟩
    rw [hm, timesD, hx]
    rfl
  · obtain ⟨hp, hr⟩ := h2.some_ hx
    refine .inl ⟨ys ++ [x], xs ++ z, r', by rw [List.length_append, h.len]; rfl, htur, hown, hrs (σ := some r') hr, fun w'' t => ?_, ?_⟩
    · refine RowR.snoc hz (hP _ _ (hp w'' ((hold w'' t).mono (fun j _ hj => ?_)))) (h.all w'' ?_)
      · rcases hj with hj | hj
        · omega
        · exact (hrow j hj).2
      · exact (t1.mono (fun j _ hj => .inl (by rw [hj]; exact hbw))).trans (hold w'' t) (fun _ _ h => h)
    · rw [h.eq]
      obtain ⟨m, hm⟩ : ∃ m, n - i = m + 1 := ⟨n - i - 1, by omega⟩
      have hm' : n - (i + 1) = m := by omega
      rw [hm, hm', timesD, hx]
      simp only
      cases timesD d1 m r' with
      | none => rfl
      | some p => simp
theorem LoA.done {ys : List α} {xs : List Value} {r : Bt} (h : LoA k T R d1 F w0 bk B n q wr v n ys xs r) : SobF F (ListP k R) IsSlice bk B w0 q v wr := by
  have hrow := h.row.lt
  refine SobF.good (x := ys) (r := r) (by rw [h.eq, Nat.sub_self, timesD]; simp) h.turn (fun w'' t => ⟨xs, ?_, h.all w'' (t.mono fun j _ hj => .inl hj)⟩) h.rd
  exact Sl.of_own (own_turn h.row t (fun g hg e => by have := (hrow g hg).1; omega))
theorem LoB.done (h : LoB F w0 bk B q wr v) : SobF F (ListP k R) IsSlice bk B w0 q v wr := by
  obtain ⟨l, hl⟩ := h.rd
  exact SobF.bad h.eq h.turn h.shape hl
end
theorem sl_new2 (w : World) (o : Obj) (cs : Array Value) (t : TypeId) (k n : Nat) (hs : cs.size = n * k) (hn : n ≤ maxLen) : Sl ((w.alloc o).alloc (.cells cs t)) (w.heap.size + 2) k (.slice (some ⟨w.heap.size + 1, 0, none⟩) n n) cs.toList := by
  have h := sl_new (w.alloc o) cs t k n hs hn
  rw [show (w.alloc o).heap.size = w.heap.size + 1 from Array.size_push _] at h
  exact h
/-- A struct of five slices; of two numbers and a slice. -/
def IsFive (v : Value) : Prop := ∃ (A1 : Option Addr) (n1 c1 : Nat) (A2 : Option Addr) (n2 c2 : Nat) (A3 : Option Addr) (n3 c3 : Nat) (A4 : Option Addr) (n4 c4 : Nat) (A5 : Option Addr) (n5 c5 : Nat), v = .agg #[.slice A1 n1 c1, .slice A2 n2 c2, .slice A3 n3 c3, .slice A4 n4 c4, .slice A5 n5 c5]
def IsProc (v : Value) : Prop := ∃ (a b : Int) (A : Option Addr) (n c : Nat), v = .agg #[.int .i64 a, .int .i64 b, .slice A n c]
theorem five_of {w : World} {v : Value} {x : CoD} (h : ElK 5 RCo w v x) : IsFive v := by
  obtain ⟨z, rfl, _, _, h⟩ := h
  obtain ⟨A1, n1, c1, A2, n2, c2, A3, n3, c3, A4, n4, c4, A5, n5, c5, rfl⟩ := CoR.slices h
  exact ⟨A1, n1, c1, A2, n2, c2, A3, n3, c3, A4, n4, c4, A5, n5, c5, rfl⟩
theorem proc_of {w : World} {v : Value} {x : ProcD} (h : ElK 3 RProc w v x) : IsProc v := by
  obtain ⟨z, rfl, _, _, h⟩ := h
  obtain ⟨v, rfl, h⟩ := h
  obtain ⟨A, n, c, rfl⟩ := sl_shape h
  exact ⟨_, _, A, n, c, rfl⟩
theorem elk_cells {α : Type} {k : Nat} {R : World → List Value → α → Prop} {w : World} {z : List Value} {x : α} (h : ElK k R w (.agg z.toArray) x) : R w z x := by
  obtain ⟨z', e, _, _, h4⟩ := h
  injection e with e
  have : z = z' := by have := congrArg Array.toList e; simpa using this
  rw [this]; exact h4
set_option maxRecDepth 100000 in
set_option maxHeartbeats 4000000 in
theorem sonums_any (w : World) (bk B : Nat) (σ : Option Bt) (hR : RsO w bk B σ) :
    Calls Try.prog 32 #[.pointer (some ⟨bk, 0, none⟩)] w (Sob (ListP 1 RInt) IsSlice bk B w (σ.bind (allD (numD)))) := by
  have HM := hid (somany_any w bk B σ hR)
  have hlt0 := hR.lt
  clear hR
  go_enter Try.func32, Try.ntmps32
  go_wp2_with fail
  refine HM.out.mono ?_
  rintro e w2 ⟨v2, rfl, h2⟩
  obtain ⟨n, rfl, hn0, hst⟩ := lo_start (k := 1) (T := 3) (R := RInt) (d1 := numD) (F := fun k => k = bk) h2 h2.1
  have HS := hid hst
  clear h2 hst HM
  go_wp2_with fail
  go_loopw [3, 5] (fun v3 v5 wr => ∃ i : Nat, v5 = .int .i64 (i : Int) ∧ i ≤ n ∧ LoS 1 3 RInt (numD) (fun k => k = bk) w bk B n (σ.bind (allD (numD))) wr v3 i) (fun _ v5 _ => n - (intOf v5).toNat)
  case atStart => exact ⟨0, rfl, by omega, HS.out⟩
  case round =>
    obtain ⟨i, rfl, hi, hat⟩ := hrel
    rcases hat with ⟨ys, xs, r, hat⟩ | hat
    · obtain ⟨A, c, hn1, hc1, hL1, hB1, hbs, hb, d1, d2, z1, z2⟩ := hat.rd.parts
      have HAT := hid hat
      clear hat hbs hb d1 z1 z2
      by_cases hlt : i < n
      · have HN := hid (sonum_any wr bk B (some r) HAT.out.rd)
        have hlt1 := hlt
        go_wp2_with fail
        refine HN.out.mono ?_
        rintro e w2 ⟨ve, rfl, h2⟩
        have h2 : SobR _ _ bk B wr ((numD) r) ve w2 := h2
        have t2 := h2.1
        have H2 := hid h2
        have hsz2 : w.heap.size ≤ w2.heap.size := Nat.le_trans HAT.out.turn.size t2.size
        have hrow2 := own_turn HAT.out.row t2 (fun g hg e => by have := (HAT.out.row.lt g hg).1; omega)
        have HROW2 := hid hrow2
        have HIL := HAT.out.row.1
        obtain ⟨x, rfl⟩ : ∃ x, ve = .int .i64 x := h2.shape (fun _ x h => ⟨_, h⟩) (fun h => ⟨_, h⟩)
        have H1 : Hid (∀ u ∈ [Value.int .i64 x], u.oneCell' = true) := hid (by intro u hu; rw [List.mem_singleton.1 hu]; rfl)
        clear hrow2 h2 t2 d2
        go_wp2_with (at_builtin; go_must (refine wpList_app rfl _ _ _ rfl w.heap.size el_rd_int _ _ rfl rfl (HROW2.out.alloc _) (sl_new w2 _ _ 1 1 rfl (by decide)) H1.out (by simp [maxLen]; omega) (by simp; omega) (le_alloc hsz2 _) (fun v9 w9 n9 hown9 hg9 hbk9 => ?_)); have HS9 := hid (lo_next HAT.out (fun j hj => by rw [hj]; exact hlt0) rfl hlt1 H2.out (z := [Value.int .i64 x]) rfl (fun w x h => (by show _ = _; rw [h])) ((Below.refl _ _).alloc (Nat.le_refl _) _) hg9 (by have h9 := hown9.1; simp at h9 HIL; omega) hown9 hbk9); clear hown9 hg9 hbk9)
        refine ⟨⟨i + 1, rfl, by omega, HS9.out⟩, ?_⟩
        simp [intOf]; omega
      · obtain rfl : i = n := by omega
        go_wp2_with fail
        go_ret
        exact ⟨_, rfl, HAT.out.done⟩
    · obtain ⟨l, hl⟩ := hat.rd
      obtain ⟨A, c, hn1, hc1, hL1, hB1, hbs, hb, d1, d2, z1, z2⟩ := hl.parts
      have HAT := hid hat
      clear hat hbs hb d1 z1 z2 hl
      by_cases hlt : i < n
      · go_wp2_with fail
        go_ret
        exact ⟨_, rfl, HAT.out.done⟩
      · go_wp2_with fail
        go_ret
        exact ⟨_, rfl, HAT.out.done⟩
set_option maxRecDepth 100000 in
set_option maxHeartbeats 4000000 in
theorem sotexts_any (w : World) (bk B : Nat) (σ : Option Bt) (hR : RsO w bk B σ) :
    Calls Try.prog 33 #[.pointer (some ⟨bk, 0, none⟩)] w (Sob (ListP 1 RText) IsSlice bk B w (σ.bind (allD (textD)))) := by
  have HM := hid (somany_any w bk B σ hR)
  have hlt0 := hR.lt
  clear hR
  go_enter Try.func33, Try.ntmps33
  go_wp2_with fail
  refine HM.out.mono ?_
  rintro e w2 ⟨v2, rfl, h2⟩
  obtain ⟨n, rfl, hn0, hst⟩ := lo_start (k := 1) (T := 9) (R := RText) (d1 := textD) (F := fun k => k = bk) h2 h2.1
  have HS := hid hst
  clear h2 hst HM
  go_wp2_with fail
  go_loopw [3, 5] (fun v3 v5 wr => ∃ i : Nat, v5 = .int .i64 (i : Int) ∧ i ≤ n ∧ LoS 1 9 RText (textD) (fun k => k = bk) w bk B n (σ.bind (allD (textD))) wr v3 i) (fun _ v5 _ => n - (intOf v5).toNat)
  case atStart => exact ⟨0, rfl, by omega, HS.out⟩
  case round =>
    obtain ⟨i, rfl, hi, hat⟩ := hrel
    rcases hat with ⟨ys, xs, r, hat⟩ | hat
    · obtain ⟨A, c, hn1, hc1, hL1, hB1, hbs, hb, d1, d2, z1, z2⟩ := hat.rd.parts
      have HAT := hid hat
      clear hat hbs hb d1 z1 z2
      by_cases hlt : i < n
      · have HN := hid (sotext_any wr bk B (some r) HAT.out.rd)
        have hlt1 := hlt
        go_wp2_with fail
        refine HN.out.mono ?_
        rintro e w2 ⟨ve, rfl, h2⟩
        have h2 : SobR _ _ bk B wr ((textD) r) ve w2 := h2
        have t2 := h2.1
        have H2 := hid h2
        have hsz2 : w.heap.size ≤ w2.heap.size := Nat.le_trans HAT.out.turn.size t2.size
        have hrow2 := own_turn HAT.out.row t2 (fun g hg e => by have := (HAT.out.row.lt g hg).1; omega)
        have HROW2 := hid hrow2
        have HIL := HAT.out.row.1
        obtain ⟨x, rfl⟩ : ∃ x, ve = sv x := h2.shape (fun _ x h => ⟨_, h⟩) (fun h => ⟨_, h⟩)
        have H1 : Hid (∀ u ∈ [sv x], u.oneCell' = true) := hid (by intro u hu; rw [List.mem_singleton.1 hu]; rfl)
        clear hrow2 h2 t2 d2
        go_wp2_with (at_builtin; go_must (refine wpList_app rfl _ _ _ rfl w.heap.size el_rd_string _ _ rfl rfl (HROW2.out.alloc _) (sl_new w2 _ _ 1 1 rfl (by decide)) H1.out (by simp [maxLen]; omega) (by simp; omega) (le_alloc hsz2 _) (fun v9 w9 n9 hown9 hg9 hbk9 => ?_)); have HS9 := hid (lo_next HAT.out (fun j hj => by rw [hj]; exact hlt0) rfl hlt1 H2.out (z := [sv x]) rfl (fun w x h => (by show _ = _; rw [h])) ((Below.refl _ _).alloc (Nat.le_refl _) _) hg9 (by have h9 := hown9.1; simp at h9 HIL; omega) hown9 hbk9); clear hown9 hg9 hbk9)
        refine ⟨⟨i + 1, rfl, by omega, HS9.out⟩, ?_⟩
        simp [intOf]; omega
      · obtain rfl : i = n := by omega
        go_wp2_with fail
        go_ret
        exact ⟨_, rfl, HAT.out.done⟩
    · obtain ⟨l, hl⟩ := hat.rd
      obtain ⟨A, c, hn1, hc1, hL1, hB1, hbs, hb, d1, d2, z1, z2⟩ := hl.parts
      have HAT := hid hat
      clear hat hbs hb d1 z1 z2 hl
      by_cases hlt : i < n
      · go_wp2_with fail
        go_ret
        exact ⟨_, rfl, HAT.out.done⟩
      · go_wp2_with fail
        go_ret
        exact ⟨_, rfl, HAT.out.done⟩
set_option maxRecDepth 100000 in
set_option maxHeartbeats 4000000 in
theorem socos_any (d : Nat) (w : World) (bk B : Nat) (σ : Option Bt) (hR : RsO w bk B σ) (hone : ∀ (w1 : World) (bk B : Nat) (σ : Option Bt), RsO w1 bk B σ → Calls Try.prog 61 #[.pointer (some ⟨bk, 0, none⟩), .int .i64 (d : Int)] w1 (Sob (ElK 5 RCo) (IsFive) bk B w1 (σ.bind (coD d)))) :
    Calls Try.prog 35 #[.pointer (some ⟨bk, 0, none⟩), .int .i64 (d : Int)] w (Sob (ListP 5 RCo) IsSlice bk B w (σ.bind (allD (coD d)))) := by
  have HM := hid (somany_any w bk B σ hR)
  have hlt0 := hR.lt
  have HONE := hid hone
  clear hone
  clear hR
  go_enter Try.func35, Try.ntmps35
  go_wp2_with fail
  refine HM.out.mono ?_
  rintro e w2 ⟨v2, rfl, h2⟩
  obtain ⟨n, rfl, hn0, hst⟩ := lo_start (k := 5) (T := 42) (R := RCo) (d1 := coD d) (F := fun k => k = bk) h2 h2.1
  have HS := hid hst
  clear h2 hst HM
  go_wp2_with fail
  go_loopw [5, 7] (fun v5 v7 wr => ∃ i : Nat, v7 = .int .i64 (i : Int) ∧ i ≤ n ∧ LoS 5 42 RCo (coD d) (fun k => k = bk) w bk B n (σ.bind (allD (coD d))) wr v5 i) (fun _ v7 _ => n - (intOf v7).toNat)
  case atStart => exact ⟨0, rfl, by omega, HS.out⟩
  case round =>
    obtain ⟨i, rfl, hi, hat⟩ := hrel
    rcases hat with ⟨ys, xs, r, hat⟩ | hat
    · obtain ⟨A, c, hn1, hc1, hL1, hB1, hbs, hb, d1, d2, z1, z2⟩ := hat.rd.parts
      have HAT := hid hat
      clear hat hbs hb d1 z1 z2
      by_cases hlt : i < n
      · have HN := hid (HONE.out wr bk B (some r) HAT.out.rd)
        have hlt1 := hlt
        go_wp2_with fail
        refine HN.out.mono ?_
        rintro e w2 ⟨ve, rfl, h2⟩
        have h2 : SobR _ _ bk B wr ((coD d) r) ve w2 := h2
        have t2 := h2.1
        have H2 := hid h2
        have hsz2 : w.heap.size ≤ w2.heap.size := Nat.le_trans HAT.out.turn.size t2.size
        have hrow2 := own_turn HAT.out.row t2 (fun g hg e => by have := (HAT.out.row.lt g hg).1; omega)
        have HROW2 := hid hrow2
        have HIL := HAT.out.row.1
        obtain ⟨A1, n1, c1, A2, n2, c2, A3, n3, c3, A4, n4, c4, A5, n5, c5, rfl⟩ : IsFive ve := h2.shape (fun _ x h => five_of h) (fun h => h)
        have H1 : Hid (∀ u ∈ ([.slice A1 n1 c1, .slice A2 n2 c2, .slice A3 n3 c3, .slice A4 n4 c4, .slice A5 n5 c5] : List Value), u.oneCell' = true) := hid (by intro u hu; simp only [List.mem_cons, List.not_mem_nil, or_false] at hu; rcases hu with rfl | rfl | rfl | rfl | rfl <;> rfl)
        clear hrow2 h2 t2 d2
        go_wp2_with (at_builtin; go_must (refine wpList_app rfl _ _ _ rfl w.heap.size el_rd_co _ _ rfl rfl ((HROW2.out.alloc _).alloc _) (sl_new2 w2 _ _ _ 5 1 rfl (by decide)) H1.out (by simp [maxLen]; omega) (by simp; omega) (le_alloc (le_alloc hsz2 _) _) (fun v9 w9 n9 hown9 hg9 hbk9 => ?_)); have HS9 := hid (lo_next HAT.out (fun j hj => by rw [hj]; exact hlt0) rfl hlt1 H2.out (z := ([.slice A1 n1 c1, .slice A2 n2 c2, .slice A3 n3 c3, .slice A4 n4 c4, .slice A5 n5 c5] : List Value)) rfl (fun w x h => elk_cells h) (((Below.refl _ _).alloc (Nat.le_refl _) _).alloc (le_alloc (Nat.le_refl _) _) _) hg9 (by have h9 := hown9.1; simp at h9 HIL; omega) hown9 hbk9); clear hown9 hg9 hbk9)
        refine ⟨⟨i + 1, rfl, by omega, HS9.out⟩, ?_⟩
        simp [intOf]; omega
      · obtain rfl : i = n := by omega
        go_wp2_with fail
        go_ret
        exact ⟨_, rfl, HAT.out.done⟩
    · obtain ⟨l, hl⟩ := hat.rd
      obtain ⟨A, c, hn1, hc1, hL1, hB1, hbs, hb, d1, d2, z1, z2⟩ := hl.parts
      have HAT := hid hat
      clear hat hbs hb d1 z1 z2 hl
      by_cases hlt : i < n
      · go_wp2_with fail
        go_ret
        exact ⟨_, rfl, HAT.out.done⟩
      · go_wp2_with fail
        go_ret
        exact ⟨_, rfl, HAT.out.done⟩
end Go.Proofs.Ytpnggkkfoipfhaa
