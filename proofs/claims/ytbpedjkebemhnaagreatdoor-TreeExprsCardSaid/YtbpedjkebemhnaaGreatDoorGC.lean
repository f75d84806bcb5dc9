/- Texts that belong together: MS, MT, MO, MR. -/
import Derived.Maps.OwnSet
import Derived.Test.YtbpedjkebemhnaaGreatDoorGA
import Derived.ProofKit
import Derived.OpenShut
import Derived.SliceStrings
import Derived.SizedLaws
import Derived.Deep.RegionLaw
import Derived.Deep.RegionHeld
/- Memory with a footprint: what has turned lies in a set of blocks; slices of texts. Each fact is proved of any program. -/
set_option linter.unusedVariables false
namespace Go.Proofs.YtbpedjkebemhnaaGreatDoor
open Go.RowKit

/-- Nothing of what was there has turned but the blocks of F. -/
def Turn (F : Nat → Prop) (w w' : World) : Prop :=
  w'.os = w.os ∧ w'.tape = w.tape ∧ w'.output = w.output ∧ w.heap.size ≤ w'.heap.size ∧ ∀ k, k < w.heap.size → ¬ F k → w'.heap[k]? = w.heap[k]?

section
variable {F G : Nat → Prop} {a b c w w' : World}
theorem Turn.refl (F : Nat → Prop) (w : World) : Turn F w w := ⟨rfl, rfl, rfl, Nat.le_refl _, fun _ _ _ => rfl⟩
theorem Turn.size (h : Turn F w w') : w.heap.size ≤ w'.heap.size := h.2.2.2.1
theorem Turn.block (h : Turn F w w') {k : Nat} (hk : k < w.heap.size) (hF : ¬ F k) : w'.heap[k]? = w.heap[k]? := h.2.2.2.2 k hk hF
theorem Turn.trans (h : Turn F a b) (k : Turn G b c) (hG : ∀ i, i < a.heap.size → G i → F i) : Turn F a c :=
  ⟨k.1.trans h.1, k.2.1.trans h.2.1, k.2.2.1.trans h.2.2.1, Nat.le_trans h.size k.size, fun i hi hF =>
    (k.block (Nat.lt_of_lt_of_le hi h.size) (fun hg => hF (hG i hi hg))).trans (h.block hi hF)⟩
theorem Turn.of_below (h : Below w.heap.size w w') : Turn F w w' := ⟨h.os, h.tape, h.output, h.size, fun k hk _ => h.block k hk⟩
theorem Turn.of_grown {row : Option Nat} (h : w.grownBy w' row) (hr : ∀ k, row = some k → F k) : Turn F w w' :=
  ⟨h.os, h.tape, h.output, h.size, fun k hk hF => h.block k hk (fun e => hF (hr k e.symm))⟩
theorem Turn.below {B : Nat} (h : Turn F w w') (hB : B ≤ w.heap.size) (hF : ∀ k, k < B → ¬ F k) : Below B w w' :=
  ⟨h.1, h.2.1, h.2.2.1, h.size, fun k hk => h.block (Nat.lt_of_lt_of_le hk hB) (hF k hk)⟩
theorem Turn.mono (h : Turn F w w') (hF : ∀ k, k < w.heap.size → F k → G k) : Turn G w w' :=
  ⟨h.1, h.2.1, h.2.2.1, h.size, fun k hk hG => h.block hk (fun hf => hG (hF k hk hf))⟩
theorem Turn.alloc (F : Nat → Prop) (w : World) (o : Obj) : Turn F w (w.alloc o) := Turn.of_grown (World.grownBy_alloc w o none) (by simp)
theorem Turn.drewN (F : Nat → Prop) (w : World) (n : Nat) : Turn F w (w.drewN n) := ⟨rfl, rfl, rfl, Nat.le_refl _, fun _ _ _ => rfl⟩
theorem Turn.lt (h : Turn F w w') {k : Nat} (hk : k < w.heap.size) : k < w'.heap.size := Nat.lt_of_lt_of_le hk h.size
end

theorem Sl.keepB {w w' : World} {B k : Nat} {v : Value} {xs : List Value} (h : Sl w B k v xs) (hk : ∀ g, v.ownBlock = some g → g < B → w'.heap[g]? = w.heap[g]?) : Sl w' B k v xs := by
  obtain ⟨A, n, c, hv, hl, hn, hc, hx⟩ := h
  refine ⟨A, n, c, hv, hl, hn, hc, fun h0 => ?_⟩
  obtain ⟨b, off, hA, hb, hcell⟩ := hx h0
  refine ⟨b, off, hA, hb, fun j u hu => ?_⟩
  rw [← hcell j u hu]
  have h1 := hk b (by subst hv hA; rfl) hb
  simp only [World.cell?, h1]

/-- v reads as the cells xs, and leads to blocks of F alone. -/
def SlF (w : World) (F : Nat → Prop) (k : Nat) (v : Value) (xs : List Value) : Prop := Sl w w.heap.size k v xs ∧ ∀ g, v.ownBlock = some g → F g
section
variable {F G : Nat → Prop} {w w' : World} {k : Nat} {v : Value} {xs : List Value}
theorem SlF.turn (h : SlF w F k v xs) (t : Turn G w w') (hd : ∀ g, F g → ¬ G g) : SlF w' F k v xs :=
  ⟨(h.1.keepB fun g hg hl => t.block hl (hd g (h.2 g hg))).more t.size, h.2⟩
theorem SlF.mono (h : SlF w F k v xs) (hF : ∀ g, F g → G g) : SlF w G k v xs := ⟨h.1, fun g hg => hF g (h.2 g hg)⟩
theorem SlF.of_own {base n : Nat} {e : TypeId} (h : w.ownsRow base e k v n xs) (hF : ∀ g, v.ownBlock = some g → F g) : SlF w F k v xs := ⟨Sl.of_own h, hF⟩
end
theorem own_turn {G : Nat → Prop} {w w' : World} {base : Nat} {e : TypeId} {k : Nat} {v : Value} {n : Nat} {xs : List Value} (h : w.ownsRow base e k v n xs) (t : Turn G w w') (hd : ∀ g, v.ownBlock = some g → ¬ G g) : w'.ownsRow base e k v n xs := by
  refine ⟨h.1, ?_⟩
  rcases h.2 with h2 | ⟨g, cap, cur, hv, hg, hb, r⟩
  · exact .inl h2
  · refine .inr ⟨g, cap, cur, hv, hg, ?_, r⟩
    rw [t.block (Array.getElem?_eq_some_iff.1 hb).1 (hd g (by subst hv; rfl))]; exact hb
theorem map_turn {H : Type} {P : Program} {k : TypeId} {R : Value → Option (DataW H × List MemPlace)} {G : Nat → Prop} {w w' : World} {b n : Nat} {D : DataW H} (h : w.ownsMap P k R b n D) (t : Turn G w w') (hd : ¬ G b) : w'.ownsMap P k R b n D := by
  have hlt := h.lt
  obtain ⟨es, clock, hb, r⟩ := h
  exact ⟨es, clock, (t.block hlt hd).trans hb, r⟩
theorem block_turn {G : Nat → Prop} {w w' : World} {b : Nat} {o : Obj} (h : w.heap[b]? = some o) (t : Turn G w w') (hd : ¬ G b) : w'.heap[b]? = some o :=
  (t.block (Array.getElem?_eq_some_iff.1 h).1 hd).trans h
theorem block_lt {w : World} {b : Nat} {o : Obj} (h : w.heap[b]? = some o) : b < w.heap.size := (Array.getElem?_eq_some_iff.1 h).1
theorem own_form {w : World} {base : Nat} {e : TypeId} {k : Nat} {v : Value} {n : Nat} {xs : List Value} (h : w.ownsRow base e k v n xs) (h0 : 0 < n) :
    ∃ g c, v = .slice (some ⟨g, 0, none⟩) n c ∧ base ≤ g ∧ g < w.heap.size ∧ n ≤ c ∧ c ≤ maxLen := by
  rcases h.2 with ⟨_, h0⟩ | ⟨g, cap, cur, hv, hb, hg, hc, hm, _⟩
  · omega
  · exact ⟨g, cap, hv, hb, block_lt hg, hc, hm⟩

/-- Texts, as cells. -/
def svs (l : List (List UInt8)) : List Value := l.map sv
theorem svs_length (l : List (List UInt8)) : (svs l).length = l.length := by simp [svs]
theorem svs_append (a b : List (List UInt8)) : svs (a ++ b) = svs a ++ svs b := by simp [svs]
theorem svs_one (l : List (List UInt8)) : ∀ u ∈ svs l, u.oneCell' = true := by
  intro u hu
  obtain ⟨b, _, rfl⟩ := List.mem_map.1 hu
  rfl
theorem svs_get (l : List (List UInt8)) (i : Nat) (h : i < l.length) : (svs l)[i]? = some (sv l[i]) := by simp [svs, h]
/-- The slice value v reads as these texts. -/
def Ss (w : World) (B : Nat) (v : Value) (l : List (List UInt8)) : Prop := Sl w B 1 v (svs l)
theorem Ss.open_ {w : World} {B : Nat} {v : Value} {l : List (List UInt8)} (h : Ss w B v l) :
    ∃ (A : Option Addr) (c : Nat), v = .slice A l.length c ∧ l.length ≤ c ∧ c ≤ maxLen ∧
      (0 < l.length → ∃ b off, A = some ⟨b, off, none⟩ ∧ b < B ∧ ∀ (j : Nat) (hj : j < l.length), w.cell? ⟨b, off + j, none⟩ = some (sv l[j])) := by
  obtain ⟨A, n, c, rfl, hl, hn, hc, hx⟩ := h
  obtain rfl : l.length = n := by rw [← svs_length l, hl]; omega
  refine ⟨A, c, rfl, hn, hc, fun h0 => ?_⟩
  obtain ⟨b, off, hA, hb, hcell⟩ := hx h0
  exact ⟨b, off, hA, hb, fun j hj => hcell j _ (svs_get l j hj)⟩
theorem Ss.below {w w' : World} {B : Nat} {v : Value} {l : List (List UInt8)} (h : Ss w B v l) (hb : Below B w w') : Ss w' B v l := Sl.below h hb
theorem Ss.alloc {w : World} {B : Nat} {v : Value} {l : List (List UInt8)} (h : Ss w B v l) (hB : B ≤ w.heap.size) (o : Obj) : Ss (w.alloc o) B v l := Sl.alloc h hB o
theorem Ss.more {w : World} {B B' : Nat} {v : Value} {l : List (List UInt8)} (h : Ss w B v l) (hB : B ≤ B') : Ss w B' v l := Sl.more h hB
/-- v is nil or a row of the call's own that holds just these texts. -/
def OwnS (w : World) (base : Nat) (e : TypeId) (v : Value) (l : List (List UInt8)) : Prop := ∃ n, w.ownsRow base e 1 v n (svs l)
section
variable {w w' : World} {base : Nat} {e : TypeId} {v : Value} {l : List (List UInt8)}
theorem OwnS.nil (w : World) (base : Nat) (e : TypeId) : OwnS w base e (.slice none 0 0) [] := ⟨0, World.ownsRow_nil _ _ _ _⟩
theorem OwnS.ss (h : OwnS w base e v l) : Ss w w.heap.size v l := by obtain ⟨n, h⟩ := h; exact Sl.of_own h
theorem OwnS.below (h : OwnS w base e v l) (hb : Below w.heap.size w w') : OwnS w' base e v l := by obtain ⟨n, h⟩ := h; exact ⟨n, own_below h hb⟩
theorem OwnS.alloc (h : OwnS w base e v l) (o : Obj) : OwnS (w.alloc o) base e v l := by obtain ⟨n, h⟩ := h; exact ⟨n, h.alloc o⟩
theorem OwnS.drewN (h : OwnS w base e v l) (k : Nat) : OwnS (w.drewN k) base e v l := h
theorem OwnS.rebase {base' : Nat} (h : OwnS w base e v l) (hb : base' ≤ base) : OwnS w base' e v l := by obtain ⟨n, h⟩ := h; exact ⟨n, own_base h hb⟩
theorem OwnS.lt (h : OwnS w base e v l) : ∀ k, v.ownBlock = some k → base ≤ k ∧ k < w.heap.size := by obtain ⟨n, h⟩ := h; exact h.lt
theorem OwnS.turn {G : Nat → Prop} (h : OwnS w base e v l) (t : Turn G w w') (hd : ∀ g, v.ownBlock = some g → ¬ G g) : OwnS w' base e v l := by obtain ⟨n, h⟩ := h; exact ⟨n, own_turn h t hd⟩
theorem OwnS.row (h : OwnS w base e v l) : w.ownsRow base e 1 v l.length (svs l) := by
  obtain ⟨n, h⟩ := h
  have hn : n = l.length := by have := h.1; rw [svs_length] at this; omega
  subst hn; exact h
theorem OwnS.slF {F : Nat → Prop} (h : OwnS w base e v l) (hF : ∀ g, base ≤ g → F g) : SlF w F 1 v (svs l) := SlF.of_own h.row fun g hg => hF g (h.lt g hg).1
end
theorem wpList_appS {P : Program} {w : World} {ops : Array Oper} {rest : List Oper} {o : Oper} {a : Act} {Q : Exit → Act → World → Prop} (hgd : o.guard = none) (s x : Operand) (t : TypeId)
    (ho : o.op = .call { callee := .builtin .append, args := #[s, x], argTypes := #[t, t] })
    (base : Nat) {e : TypeId} {z : Value} (hE : ElemIs P t e z 1 16) (v y : Value) (hs : a.eval s = v) (hx : a.eval x = y)
    {l : List (List UInt8)} (hown : OwnS w base e v l) {B : Nat} {m : List (List UInt8)} (hy : Ss w B y m)
    (hlen : l.length + m.length ≤ 8796093022208) (hbase : base ≤ w.heap.size)
    (h : ∀ v' w', OwnS w' base e v' (l ++ m) → w.grownBy w' v.ownBlock → (v'.ownBlock = v.ownBlock ∨ v'.ownBlock = some w.heap.size) → wpList P ops Q rest (a.put o.dst v') w') :
    wpList P ops Q (o :: rest) a w :=
  wpList_app hgd s x t ho base hE v y hs hx hown.row hy (svs_one _) (by simp only [svs_length, maxLen]; omega) (by rw [svs_length]; omega) hbase
    (fun v' w' n' h1 h2 h3 => h v' w' ⟨n', by rw [svs_append]; exact h1⟩ h2 h3)
theorem below_appS {B : Nat} {a w w' : World} {base : Nat} {e : TypeId} {v : Value} {l : List (List UInt8)} (h : Below B a w) (hown : OwnS w base e v l) (hg : w.grownBy w' v.ownBlock) (hB : B ≤ base) (hs : B ≤ w.heap.size) : Below B a w' :=
  h.grown hg hs fun k hk => Nat.le_trans hB (hown.lt k hk).1
/-- A fresh block of one text, as 'append(l, x)' lays it. -/
theorem ss_new (w : World) (x : List UInt8) (t : TypeId) : Ss (w.alloc (.cells #[sv x] t)) (w.heap.size + 1) (.slice (some ⟨w.heap.size, 0, none⟩) 1 1) [x] :=
  sl_new w #[sv x] t 1 1 rfl (by decide)

/-- A look-up whose run is known, at the operation. -/
theorem wpList_look {P : Program} {w : World} {ops : Array Oper} {rest : List Oper} {o : Oper} {a : Act} {Q : Exit → Act → World → Prop} (hg : o.guard = none) (m x : Operand) (t : TypeId) (ok : Bool) (hop : o.op = Op.lookup t m x ok)
    {mv key r : Value} (hm : a.eval m = mv) (hx : a.eval x = key) (hrun : (Instr.lookup t mv key ok).run P w = .ok r w) (hK : wpList P ops Q rest (a.put o.dst r) w) : wpList P ops Q (o :: rest) a w := by
  refine wpList_plain hg fun K' hK' => ?_
  unfold Oper.wp
  simp [execOp, hop, hm, hx, hrun, Result.andThen]
  exact hK' _ _ hK
theorem turn_set (w : World) (b i : Nat) (v : Value) : Turn (fun k => k = b) w (w.setCell ⟨b, i, none⟩ v) :=
  ⟨rfl, rfl, rfl, by simp, fun k _ hF => heap_setCell_other w _ k v hF⟩
end Go.Proofs.YtbpedjkebemhnaaGreatDoor

/- Opening arguments: what a slice of texts that came in reads as. -/
set_option linter.unusedVariables false
namespace Go.Proofs.YtbpedjkebemhnaaGreatDoor
open Go.ChangeShapes Go.WideShapes Go.ChangeAt Go.RowKit
section
variable {H : Type} {enc : TypeId × Value → H} {P : Program} {W : World}
theorem sv_of (s : ByteArray) : Value.string s = sv s.data.toList := by
  show Value.string s = Value.string ⟨s.data.toList.toArray⟩
  simp
theorem open_texts {t e : TypeId} (ht : P.underlying t = some (.slice e)) (he : P.underlying e = some .string) (hc : P.cellsOf e = 1) {v : Value} {d : DataW H} {p : List MemPlace} {base : Nat}
    (hval : Value.okWide P W .any base t v) (hd : DataW.Trod enc P W 0 (fun _ => true) true t v d p) :
    ∃ l : List (List UInt8), Ss W W.heap.size v l ∧ ∀ y ∈ l, y.length ≤ maxLen := by
  obtain ⟨a0, len0, cap0, rfl⟩ := okWide_slice ht hval
  obtain ⟨fuel, hf⟩ := hd
  rcases open_strings ht he hc hf with ⟨hcs, hx⟩ | ⟨a, len, cap, ss, hcs, _, hl, hm, hz, hx, hcell, hle⟩
  · simp [Value.cells] at hcs
    obtain ⟨rfl, rfl, rfl⟩ := hcs
    exact ⟨[], Sl.nil _ _ _, by simp⟩
  · simp [Value.cells] at hcs
    obtain ⟨rfl, rfl, rfl⟩ := hcs
    have hz' : ss.length = cap0 := by simpa using hz
    have htk : (ss.take len0).length = len0 := by rw [List.length_take]; omega
    refine ⟨(ss.take len0).map fun s => s.data.toList, ?_, ?_⟩
    · refine ⟨some a, len0, cap0, rfl, by rw [svs_length, List.length_map, htk]; omega, hl, hm, fun h0 => ?_⟩
      obtain ⟨b, off, spot⟩ := a
      have h1 := hcell 0 (by omega)
      have hspot : spot = none := by simpa [Addr.add] using World.cell?_spot h1
      subst hspot
      refine ⟨b, off, rfl, ?_, fun j u hu => ?_⟩
      · rw [plain_add] at h1
        exact World.block_lt_of_cell? W _ h1
      · unfold svs at hu
        rw [List.map_map] at hu
        have hj : j < (ss.take len0).length := by
          rcases Nat.lt_or_ge j (ss.take len0).length with h | h
          · exact h
          · rw [List.getElem?_eq_none (by simpa using h)] at hu; cases hu
        have h2 := hcell j (by omega)
        rw [plain_add] at h2
        rw [h2, ← hu]
        rw [List.getElem?_map, List.getElem?_take, if_pos (by omega), List.getElem?_eq_getElem (by omega)]
        simp only [Option.map_some, Function.comp_apply]
        rw [← sv_of, List.getD_eq_getElem?_getD, List.getElem?_eq_getElem (show j < ss.length by omega)]
        rfl
    · intro y hy
      obtain ⟨s, hs, rfl⟩ := List.mem_map.1 hy
      have h := hle s (List.mem_of_mem_take hs)
      have e : s.data.toList.length = s.size := Array.length_toList
      rw [e]; exact h
end
end Go.Proofs.YtbpedjkebemhnaaGreatDoor

/- Opening arguments: what a slice of bytes that came in reads as. -/
set_option linter.unusedVariables false
namespace Go.Proofs.YtbpedjkebemhnaaGreatDoor
open Go.ChangeShapes Go.WideShapes Go.ChangeAt Go.RowKit
section
variable {H : Type} {enc : TypeId × Value → H} {P : Program} {W : World}
theorem open_bytes {t e : TypeId} (ht : P.underlying t = some (.slice e)) (he : P.underlying e = some (.int .u8)) (hc : P.cellsOf e = 1) {v : Value} {d : DataW H} {p : List MemPlace} {base : Nat}
    (hval : Value.okWide P W .any base t v) (hd : DataW.Trod enc P W 0 (fun _ => true) true t v d p) :
    ∃ l : List UInt8, Bs W W.heap.size v l ∧ ((d = .nil ∧ l = []) ∨ ∃ els spare, d = .slice els spare ∧ els.length = l.length) := by
  obtain ⟨a0, len0, cap0, rfl⟩ := okWide_slice ht hval
  obtain ⟨fuel, hf⟩ := hd
  rcases open_ints ht he hc hf with ⟨hcs, hx⟩ | ⟨a, len, cap, zs, hcs, _, hl, hm, hz, hx, hcell, hwz⟩
  · simp [Value.cells] at hcs
    obtain ⟨rfl, rfl, rfl⟩ := hcs
    exact ⟨[], Sl.nil _ _ _, .inl ⟨(Prod.mk.inj hx).1, rfl⟩⟩
  · simp [Value.cells] at hcs
    obtain ⟨rfl, rfl, rfl⟩ := hcs
    have hz' : zs.length = cap0 := by simpa using hz
    have hb : ∀ n ∈ zs, 0 ≤ n ∧ n < 256 := fun n hn => by
      have := bounds_u8 (hwz n hn)
      omega
    have hlist : ∀ ys : List Int, (∀ n ∈ ys, 0 ≤ n ∧ n < 256) → bv (ys.map fun n => UInt8.ofNat n.toNat) = ys.map (Value.int .u8) := by
      intro ys hy
      unfold bv
      rw [List.map_map]
      apply List.map_congr_left
      intro n hn
      have := hy n hn
      show Value.int .u8 ((UInt8.ofNat n.toNat).toNat : Int) = _
      rw [UInt8.toNat_ofNat']
      congr 1; omega
    refine ⟨(zs.take len0).map fun n => UInt8.ofNat n.toNat, ?_, .inr ⟨_, _, (Prod.mk.inj hx).1, by simp [lits]⟩⟩
    have htk : (zs.take len0).length = len0 := by rw [List.length_take]; omega
    refine ⟨some a, len0, cap0, rfl, by rw [bv_length, List.length_map, htk]; omega, hl, hm, fun h0 => ?_⟩
    obtain ⟨b, off, spot⟩ := a
    have h1 := hcell 0 (by omega)
    have hspot : spot = none := by simpa [Addr.add] using World.cell?_spot h1
    subst hspot
    refine ⟨b, off, rfl, ?_, fun j u hu => ?_⟩
    · rw [plain_add] at h1
      exact World.block_lt_of_cell? W _ h1
    · rw [hlist _ (fun n hn => hb n (List.mem_of_mem_take hn))] at hu
      have hj : j < (zs.take len0).length := by
        rcases Nat.lt_or_ge j (zs.take len0).length with h | h
        · exact h
        · rw [List.getElem?_eq_none (by simpa using h)] at hu; cases hu
      have h2 := hcell j (by omega)
      rw [plain_add] at h2
      rw [h2, ← hu]
      rw [List.getElem?_map, List.getElem?_take, if_pos (by omega), List.getElem?_eq_getElem (by omega)]
      simp [List.getD, List.getElem?_eq_getElem (show j < zs.length by omega)]
theorem bytes_le {ts : List TypeId} {ds : List (DataW H)} (h : (DataW.weightsEach P ts ds).all (· ≤ reachBytes) = true) {j : Nat} {t e : TypeId} {d : DataW H} {l : List UInt8} (ht : ts[j]? = some t) (hd : ds[j]? = some d) (hu : P.underlying t = some (.slice e)) (hb : P.bytesOf e = 1)
    (hl : (d = .nil ∧ l = []) ∨ ∃ els spare, d = .slice els spare ∧ els.length = l.length) : l.length ≤ 140737488351232 := by
  rcases hl with ⟨_, rfl⟩ | ⟨els, spare, rfl, he⟩
  · simp
  · have := sized_slice h ht hd hu
    rw [hb] at this
    have e : reachBytes = 140737488351232 := by decide
    omega
end
end Go.Proofs.YtbpedjkebemhnaaGreatDoor

/- Steps of regions that draw their order. -/
set_option linter.unusedVariables false
namespace Go.Proofs.YtbpedjkebemhnaaGreatDoor
open Go.RowKit

/-- append onto a row of the call's own, as one step. -/
theorem step_app {P : Program} {ops : Array Oper} {o : Oper} {a : Act} {w : World} {K : Act → World → Prop} {Q : Exit → Act → World → Prop} {E : Prop} (hgd : o.guard = none) (s x : Operand) (t : TypeId)
    (ho : o.op = .call { callee := .builtin .append, args := #[s, x], argTypes := #[t, t] })
    (base : Nat) {e : TypeId} {z : Value} {size bytes : Nat} (hE : ElemIs P t e z size bytes) (v y : Value) (hs : a.eval s = v) (hx : a.eval x = y)
    {n : Nat} {xs : List Value} (hown : w.ownsRow base e size v n xs) {B : Nat} {news : List Value} (hy : Sl w B size y news) (h1 : ∀ u ∈ news, u.oneCell' = true)
    (h63 : n * size + news.length ≤ maxLen) (hbytes : (n * size + news.length) * bytes ≤ 140737488355328) (hbase : base ≤ w.heap.size)
    (h : ∀ v' w' n', w'.ownsRow base e size v' n' (xs ++ news) → w.grownBy w' v.ownBlock → (v'.ownBlock = v.ownBlock ∨ v'.ownBlock = some w.heap.size) → K (a.put o.dst v') w') :
    if Region.wanted o (yielded ops a.tmps) = true then Oper.wp P o a w K Q else E := by
  have hw : Region.wanted o (yielded ops a.tmps) = true := by simp [Region.wanted, hgd]
  rw [if_pos hw]
  obtain ⟨v', w', n', hrun, h2, h3, h4⟩ := run_app (P := P) (ty := o.type) w base hE hown hy h1 h63 hbytes hbase
  unfold Oper.wp execOp
  simp only [ho, resolve, invoke, builtin, Sem.run_bind, Sem.run_pure, Result.andThen_ok, List.map_toArray, List.map_cons, List.map_nil, hs, hx, hrun]
  exact h v' w' n' h2 h3 h4
end Go.Proofs.YtbpedjkebemhnaaGreatDoor
