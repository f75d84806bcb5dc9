/- GA, GB, GC, GD, YA, RA -/
import Derived.WalkKit
import Derived.OpenShut
import Derived.WalkSpells
import Derived.WalkLawsBesides
import Derived.Maps.AppendAt
import Derived.Deep.AppendLies
import Derived.Deep.Draws
import Derived.Lib.ItoaNum
import Derived.Lib.ItoaMem
import Derived.Lib.AtoiAll
import Derived.Maps.OwnSet
import Derived.ProofKit
import Derived.SliceStrings
import Derived.SizedLaws
import Derived.Deep.RegionLaw
import Derived.Deep.RegionHeld
import Derived.Test.YtmbppnbekkbibaaGreatDoorProg
import Derived.Deep.Slices
import Derived.Lib.SmallJoins
set_option linter.unusedSimpArgs false
set_option linter.unusedVariables false
section
/- Texts that belong together: PW, M, PN. -/
/- Plain facts on numbers of 64 bits that go round; no program in sight. -/
set_option linter.unusedVariables false
namespace Go.Proofs.YtmbppnbekkbibaaGreatDoor
open Go.RowKit

/-- In the range of an int. -/
def In64 (n : Int) : Prop := -9223372036854775808 ≤ n ∧ n ≤ 9223372036854775807
/-- What the groups of a number bear. -/
def Fits (f u : Nat) : Prop := u < 18446744073709551616 ∧ u < 128 ^ (f + 1)
theorem Fits.pos {f u : Nat} (h : Fits f u) (hu : ¬ u < 128) : ∃ g, f = g + 1 := by
  cases f with
  | zero => exact absurd h.2 (by omega)
  | succ g => exact ⟨g, rfl⟩
theorem Fits.next {f u : Nat} (h : Fits (f + 1) u) : Fits f (u / 128) := by
  obtain ⟨h1, h2⟩ := h
  refine ⟨by omega, ?_⟩
  rw [Nat.pow_succ] at h2
  exact (Nat.div_lt_iff_lt_mul (by decide)).2 h2
def uz (u : Nat) : Int := if u % 2 = 0 then (u / 2 : Nat) else -1 - (u / 2 : Nat)
/-- A group's bits fit. -/
def GrpFits (u x k : Nat) : Prop := u < 128 ^ k ∧ x < 128 ∧ (k ≤ 8 ∨ k = 9 ∧ x ≤ 1)
theorem GrpFits.lt {u x k : Nat} (h : GrpFits u x k) : u + x * 128 ^ k < 18446744073709551616 ∧ u + x * 128 ^ k < 128 ^ (k + 1) := by
  obtain ⟨h1, h2, h3⟩ := h
  have hk : u + x * 128 ^ k < (x + 1) * 128 ^ k := by rw [Nat.add_mul]; omega
  refine ⟨?_, ?_⟩
  · rcases h3 with h3 | ⟨rfl, h3⟩
    · have : (x + 1) * 128 ^ k ≤ 128 * 128 ^ 8 := Nat.mul_le_mul (by omega) (Nat.pow_le_pow_right (by decide) h3)
      have e : 128 * 128 ^ 8 < 18446744073709551616 := by decide
      omega
    · have : (x + 1) * 128 ^ 9 ≤ 2 * 128 ^ 9 := Nat.mul_le_mul (by omega) (Nat.le_refl _)
      have e : 2 * 128 ^ 9 = 18446744073709551616 := by decide
      omega
  · rw [Nat.pow_succ]
    have : (x + 1) * 128 ^ k ≤ 128 * 128 ^ k := Nat.mul_le_mul (by omega) (Nat.le_refl _)
    omega
section
variable {l : List UInt8} {k u x : Nat}
end
end Go.Proofs.YtmbppnbekkbibaaGreatDoor

/- Facts on memory that my walks share: a slice that reads as a list of cells, appends onto rows of the call's own, bytes and strings. Each is proved of any program. -/
set_option linter.unusedVariables false
namespace Go.Proofs.YtmbppnbekkbibaaGreatDoor
open Go.RowKit

/-- A fact behind a name: the walk does not rewrite by it. -/
theorem hid {p : Prop} (h : p) : Hid p := h

theorem le_alloc {w : World} {B : Nat} (h : B ≤ w.heap.size) (o : Obj) : B ≤ (w.alloc o).heap.size := by simp; omega

theorem plain_add (b off i : Nat) : (⟨b, off, none⟩ : Addr).add i = ⟨b, off + i, none⟩ := by
  unfold Addr.add; split <;> simp_all

/-- The slice value v reads as the cells xs, k of them an element; they lie below block B. -/
def Sl (w : World) (B k : Nat) (v : Value) (xs : List Value) : Prop :=
  ∃ (A : Option Addr) (n c : Nat), v = .slice A n c ∧ xs.length = n * k ∧ n ≤ c ∧ c ≤ maxLen ∧
    (0 < n → ∃ b off, A = some ⟨b, off, none⟩ ∧ b < B ∧ ∀ (j : Nat) u, xs[j]? = some u → w.cell? ⟨b, off + j, none⟩ = some u)

section
variable {w w' : World} {B B' k : Nat} {v : Value} {xs : List Value}
theorem Sl.nil (w : World) (B k : Nat) : Sl w B k (.slice none 0 0) [] :=
  ⟨none, 0, 0, rfl, by simp, Nat.le_refl _, Nat.zero_le _, fun h => absurd h (by omega)⟩
theorem Sl.keep (h : Sl w B k v xs) (hk : ∀ b o, b < B → w'.cell? ⟨b, o, none⟩ = w.cell? ⟨b, o, none⟩) : Sl w' B k v xs := by
  obtain ⟨A, n, c, hv, hl, hn, hc, hx⟩ := h
  refine ⟨A, n, c, hv, hl, hn, hc, fun h0 => ?_⟩
  obtain ⟨b, off, hA, hb, hcell⟩ := hx h0
  exact ⟨b, off, hA, hb, fun j u hu => (hk _ _ hb).trans (hcell j u hu)⟩
theorem Sl.more (h : Sl w B k v xs) (hB : B ≤ B') : Sl w B' k v xs := by
  obtain ⟨A, n, c, hv, hl, hn, hc, hx⟩ := h
  refine ⟨A, n, c, hv, hl, hn, hc, fun h0 => ?_⟩
  obtain ⟨b, off, hA, hb, hcell⟩ := hx h0
  exact ⟨b, off, hA, by omega, hcell⟩
theorem Sl.below (h : Sl w B k v xs) (hb : Below B w w') : Sl w' B k v xs := h.keep fun b o hp => hb.cell (p := ⟨b, o, none⟩) hp
theorem Sl.drew (h : Sl w B k v xs) : Sl w.drew B k v xs := h
theorem Sl.drewN (h : Sl w B k v xs) (n : Nat) : Sl (w.drewN n) B k v xs := h
theorem Sl.alloc (h : Sl w B k v xs) (hB : B ≤ w.heap.size) (o : Obj) : Sl (w.alloc o) B k v xs :=
  h.keep fun b o' hp => World.cell?_alloc_past _ _ _ (by show b < w.heap.size; omega)
theorem Sl.of_own {base : Nat} {e : TypeId} {n : Nat} (h : w.ownsRow base e k v n xs) : Sl w w.heap.size k v xs := by
  rcases h.2 with ⟨rfl, rfl⟩ | ⟨g, cap, cur, rfl, hb, hg, hn, hm, hs, htake⟩
  · exact ⟨none, 0, 0, rfl, h.1, Nat.le_refl _, Nat.zero_le _, fun h => absurd h (by omega)⟩
  · refine ⟨_, n, cap, rfl, h.1, hn, hm, fun _ => ⟨g, 0, rfl, (Array.getElem?_eq_some_iff.1 hg).1, fun j u hu => ?_⟩⟩
    have := h.cells (g := g) rfl j u hu
    rwa [plain_add] at this
theorem Sl.lt (h : Sl w w.heap.size k v xs) : Sl w w.heap.size k v xs := h
end

/-- What an element type of slices is: its row of the program's table. -/
def ElemIs (P : Program) (t e : TypeId) (z : Value) (size bytes : Nat) : Prop :=
  P.underlying t = some (.slice e) ∧ (P.info? e).map (fun i => (i.zero, i.size, i.bytes)) = some (some z, size, bytes) ∧ z.cells.size = size ∧ 0 < size

theorem grown_of_below {w w' : World} (h : Below w.heap.size w w') (row : Option Nat) : w.grownBy w' row :=
  ⟨h.os, h.tape, h.output, h.size, fun k hk _ => h.block k hk⟩
theorem own_below {w w' : World} {base : Nat} {e : TypeId} {size : Nat} {v : Value} {n : Nat} {xs : List Value} (h : w.ownsRow base e size v n xs) (hb : Below w.heap.size w w') : w'.ownsRow base e size v n xs :=
  h.kept (grown_of_below hb none) (by cases hv : v.ownBlock <;> simp)
section
variable {P : Program}
/-- append: onto a row of the call's own (or nil), whatever slice. -/
theorem run_app (w : World) (base : Nat) {t e ty : TypeId} {z : Value} {size bytes : Nat} (hE : ElemIs P t e z size bytes) {v : Value} {n : Nat} {xs : List Value} (hown : w.ownsRow base e size v n xs)
    {B : Nat} {y : Value} {news : List Value} (hy : Sl w B size y news) (h1 : ∀ u ∈ news, u.oneCell' = true)
    (h63 : n * size + news.length ≤ maxLen) (hbytes : (n * size + news.length) * bytes ≤ 140737488355328) (hbase : base ≤ w.heap.size) :
    ∃ v' w' n', (Builtin.append_ #[t, t] ty #[v, y]).run P w = .ok v' w' ∧ w'.ownsRow base e size v' n' (xs ++ news) ∧ w.grownBy w' v.ownBlock ∧ (v'.ownBlock = v.ownBlock ∨ v'.ownBlock = some w.heap.size) := by
  obtain ⟨ht, hinfo, hzs, hsz⟩ := hE
  obtain ⟨i, hi, hz, hs, hb⟩ := info_parts hinfo
  obtain ⟨A, m, c, rfl, hl, hn, hc, hx⟩ := hy
  have hnm : n + m ≤ n * size + news.length := by
    rw [hl, ← Nat.add_mul]; exact Nat.le_mul_of_pos_right _ hsz
  rcases A with _ | ad
  · have hm : m = 0 := by
      rcases Nat.eq_zero_or_pos m with h0 | h0
      · exact h0
      · obtain ⟨b, off, hA, _⟩ := hx h0; cases hA
    subst hm
    obtain rfl : news = [] := List.eq_nil_of_length_eq_zero (by simpa using hl)
    refine ⟨v, w, n, ?_, by simpa using hown, World.grownBy.refl w _, .inl rfl⟩
    rcases hown.2 with ⟨rfl, rfl⟩ | ⟨g, cap, cur, rfl, _, _, hnc, _⟩
    · simp [Builtin.append_, run_underlying ht, sizeOf, typeInfo, hi, Builtin.lenOf, Builtin.firstCells]
    · simp [Builtin.append_, run_underlying ht, sizeOf, typeInfo, hi, Builtin.lenOf, Builtin.firstCells, hnc, storeCells]
  · have hcells : ∀ j u, news[j]? = some u → w.cell? (ad.add j) = some u := by
      intro j u hu
      have h0 : 0 < m := by
        rcases Nat.eq_zero_or_pos m with h0 | h0
        · subst h0
          obtain rfl : news = [] := List.eq_nil_of_length_eq_zero (by simpa using hl)
          simp at hu
        · exact h0
      obtain ⟨b, off, hA, _, hcell⟩ := hx h0
      injection hA with hA
      subst hA
      rw [plain_add]; exact hcell j u hu
    have hb2 : (n + m) * bytes ≤ 140737488355328 := Nat.le_trans (Nat.mul_le_mul_right _ hnm) hbytes
    obtain ⟨v', w', hrun, h2, h3, _, h5⟩ := run_append_own_at (P := P) w base t ty e i z size bytes ht hi hz hs hb hzs hsz v n xs hown ad m c news hl hcells h1 (by omega) hb2 hbase
    exact ⟨v', w', n + m, hrun, h2, h3, h5⟩

theorem wpList_app {w : World} {ops : Array Oper} {rest : List Oper} {o : Oper} {a : Act} {Q : Exit → Act → World → Prop} (hgd : o.guard = none) (s x : Operand) (t : TypeId)
    (ho : o.op = .call { callee := .builtin .append, args := #[s, x], argTypes := #[t, t] })
    (base : Nat) {e : TypeId} {z : Value} {size bytes : Nat} (hE : ElemIs P t e z size bytes) (v y : Value) (hs : a.eval s = v) (hx : a.eval x = y)
    {n : Nat} {xs : List Value} (hown : w.ownsRow base e size v n xs) {B : Nat} {news : List Value} (hy : Sl w B size y news) (h1 : ∀ u ∈ news, u.oneCell' = true)
    (h63 : n * size + news.length ≤ maxLen) (hbytes : (n * size + news.length) * bytes ≤ 140737488355328) (hbase : base ≤ w.heap.size)
    (h : ∀ v' w' n', w'.ownsRow base e size v' n' (xs ++ news) → w.grownBy w' v.ownBlock → (v'.ownBlock = v.ownBlock ∨ v'.ownBlock = some w.heap.size) → wpList P ops Q rest (a.put o.dst v') w') :
    wpList P ops Q (o :: rest) a w := by
  refine wpList_plain hgd fun K hK => ?_
  obtain ⟨v', w', n', hrun, h2, h3, h4⟩ := run_app (P := P) (ty := o.type) w base hE hown hy h1 h63 hbytes hbase
  unfold Oper.wp execOp
  simp only [ho, resolve, invoke, builtin, Sem.run_bind, Sem.run_pure, Result.andThen_ok, List.map_toArray, List.map_cons, List.map_nil, hs, hx, hrun]
  exact hK _ _ (h v' w' n' h2 h3 h4)
end

theorem below_drawn {B : Nat} (w : World) (n : Nat) : Below B w (w.drewN n) := ⟨rfl, rfl, rfl, Nat.le_refl _, fun _ _ => rfl⟩
/-- A fresh block that holds just the cells of a literal. -/
theorem sl_new (w : World) (cs : Array Value) (t : TypeId) (k n : Nat) (hs : cs.size = n * k) (hn : n ≤ maxLen) :
    Sl (w.alloc (.cells cs t)) (w.heap.size + 1) k (.slice (some ⟨w.heap.size, 0, none⟩) n n) cs.toList := by
  refine ⟨_, n, n, rfl, by simpa using hs, Nat.le_refl _, hn, fun _ => ⟨w.heap.size, 0, rfl, by omega, fun j u hu => ?_⟩⟩
  rw [cell_of_row _ _ _ cs t (0, 0) (heap_alloc_new w _)]
  simpa using hu

theorem str_append (a b : List UInt8) : (⟨a.toArray⟩ : ByteArray) ++ ⟨b.toArray⟩ = ⟨(a ++ b).toArray⟩ := by
  apply ByteArray.ext
  rw [ByteArray.data_append]
  exact List.append_toArray _ _
/-- A text's value. -/
abbrev sv (l : List UInt8) : Value := .string ⟨l.toArray⟩
/-- Bytes, as cells. -/
def bv (l : List UInt8) : List Value := l.map fun b => .int .u8 (b.toNat : Int)
theorem bv_length (l : List UInt8) : (bv l).length = l.length := by simp [bv]
theorem bv_append (a b : List UInt8) : bv (a ++ b) = bv a ++ bv b := by simp [bv]
theorem bv_one (l : List UInt8) : ∀ u ∈ bv l, u.oneCell' = true := by
  intro u hu
  obtain ⟨b, _, rfl⟩ := List.mem_map.1 hu
  rfl
theorem bv_get (l : List UInt8) (i : Nat) (h : i < l.length) : (bv l)[i]? = some (.int .u8 (l[i].toNat : Int)) := by simp [bv, h]
/-- The slice value v reads as these bytes. -/
def Bs (w : World) (B : Nat) (v : Value) (l : List UInt8) : Prop := Sl w B 1 v (bv l)
theorem Bs.open_ {w : World} {B : Nat} {v : Value} {l : List UInt8} (h : Bs w B v l) :
    ∃ (A : Option Addr) (c : Nat), v = .slice A l.length c ∧ l.length ≤ c ∧ c ≤ maxLen ∧
      (0 < l.length → ∃ b off, A = some ⟨b, off, none⟩ ∧ b < B ∧ ∀ (j : Nat) (hj : j < l.length), w.cell? ⟨b, off + j, none⟩ = some (.int .u8 (l[j].toNat : Int))) := by
  obtain ⟨A, n, c, rfl, hl, hn, hc, hx⟩ := h
  obtain rfl : l.length = n := by rw [← bv_length l, hl]; omega
  refine ⟨A, c, rfl, hn, hc, fun h0 => ?_⟩
  obtain ⟨b, off, hA, hb, hcell⟩ := hx h0
  exact ⟨b, off, hA, hb, fun j hj => hcell j _ (bv_get l j hj)⟩

theorem Bs.take_ {w : World} {B : Nat} {A : Option Addr} {n c : Nat} {l : List UInt8} (h : Bs w B (.slice A n c) l) {k : Nat} (hk : k ≤ l.length) : Bs w B (.slice A k c) (l.take k) := by
  obtain ⟨A', n', c', hv, hl, hn, hc, hx⟩ := h
  injection hv with h1 h2 h3
  subst h1 h2 h3
  rw [bv_length] at hl
  refine ⟨A, k, c, rfl, by rw [bv_length, List.length_take]; omega, by omega, hc, fun h0 => ?_⟩
  obtain ⟨b, off, hA, hb, hcell⟩ := hx (by omega)
  refine ⟨b, off, hA, hb, fun j u hu => hcell j u ?_⟩
  unfold bv at hu ⊢
  rw [List.map_take, List.getElem?_take] at hu
  split at hu
  · exact hu
  · cases hu
theorem run_string_of {P : Program} {w : World} {B : Nat} {v : Value} {l : List UInt8} (h : Bs w B v l) (src e dst : TypeId) (hs : P.underlying src = some (.slice e)) (he : P.underlying e = some (.int .u8)) (hd : P.underlying dst = some .string) :
    (convert src dst v).run P w = .ok (.string ⟨l.toArray⟩) w := by
  obtain ⟨A, c, rfl, hn, hc, hx⟩ := h.open_
  by_cases h0 : l.length = 0
  · obtain rfl : l = [] := List.eq_nil_of_length_eq_zero h0
    rw [run_convert_bytes_string w src dst e _ _ c hs he hd]
    cases A with
    | none => simp [Conv.bytesToString, ByteArray.empty, ByteArray.emptyWithCapacity]; rfl
    | some ad =>
      exact (run_bytesToString w ad 0 c [] (run_loadCells_list (P := P) w ad [] (by simp))).trans rfl
  · obtain ⟨b, off, rfl, hb, hcell⟩ := hx (by omega)
    rw [run_convert_bytes_arg (P := P) w src e hs he b off l.length c (l.map fun x => (x.toNat : Int)) (by simp) (fun i hi => by rw [hcell i hi]; simp [hi]) dst hd]
    congr 2
    simp [strOfNums, Function.comp_def]
/-- v is nil or a row of the call's own, from block base on, that holds just these bytes. -/
def OwnB (w : World) (base : Nat) (e : TypeId) (v : Value) (l : List UInt8) : Prop := ∃ n, w.ownsRow base e 1 v n (bv l)
section
variable {w w' : World} {base : Nat} {e : TypeId} {v : Value} {l : List UInt8}
theorem OwnB.nil (w : World) (base : Nat) (e : TypeId) : OwnB w base e (.slice none 0 0) [] := ⟨0, World.ownsRow_nil _ _ _ _⟩
theorem OwnB.bs (h : OwnB w base e v l) : Bs w w.heap.size v l := by obtain ⟨n, h⟩ := h; exact Sl.of_own h
theorem OwnB.below (h : OwnB w base e v l) (hb : Below w.heap.size w w') : OwnB w' base e v l := by obtain ⟨n, h⟩ := h; exact ⟨n, own_below h hb⟩
theorem OwnB.alloc (h : OwnB w base e v l) (o : Obj) : OwnB (w.alloc o) base e v l := by obtain ⟨n, h⟩ := h; exact ⟨n, h.alloc o⟩
theorem OwnB.drewN (h : OwnB w base e v l) (k : Nat) : OwnB (w.drewN k) base e v l := h
theorem OwnB.drew (h : OwnB w base e v l) : OwnB w.drew base e v l := h
theorem OwnB.lt (h : OwnB w base e v l) : ∀ k, v.ownBlock = some k → base ≤ k ∧ k < w.heap.size := by obtain ⟨n, h⟩ := h; exact h.lt
end
theorem Bs.below {w w' : World} {B : Nat} {v : Value} {l : List UInt8} (h : Bs w B v l) (hb : Below B w w') : Bs w' B v l := Sl.below h hb
theorem Bs.alloc {w : World} {B : Nat} {v : Value} {l : List UInt8} (h : Bs w B v l) (hB : B ≤ w.heap.size) (o : Obj) : Bs (w.alloc o) B v l := Sl.alloc h hB o
theorem Bs.more {w : World} {B B' : Nat} {v : Value} {l : List UInt8} (h : Bs w B v l) (hB : B ≤ B') : Bs w B' v l := Sl.more h hB

/-- append of bytes, onto bytes of the call's own: the arm for the walk. -/
theorem wpList_appB {P : Program} {w : World} {ops : Array Oper} {rest : List Oper} {o : Oper} {a : Act} {Q : Exit → Act → World → Prop} (hgd : o.guard = none) (s x : Operand) (t : TypeId)
    (ho : o.op = .call { callee := .builtin .append, args := #[s, x], argTypes := #[t, t] })
    (base : Nat) {e : TypeId} {z : Value} (hE : ElemIs P t e z 1 1) (v y : Value) (hs : a.eval s = v) (hx : a.eval x = y)
    {l : List UInt8} (hown : OwnB w base e v l) {B : Nat} {m : List UInt8} (hy : Bs w B y m)
    (hlen : l.length + m.length ≤ 140737488355328) (hbase : base ≤ w.heap.size)
    (h : ∀ v' w', OwnB w' base e v' (l ++ m) → w.grownBy w' v.ownBlock → (v'.ownBlock = v.ownBlock ∨ v'.ownBlock = some w.heap.size) → wpList P ops Q rest (a.put o.dst v') w') :
    wpList P ops Q (o :: rest) a w := by
  obtain ⟨n, hown⟩ := hown
  have hn : n = l.length := by have := hown.1; rw [bv_length] at this; omega
  subst hn
  exact wpList_app hgd s x t ho base hE v y hs hx hown hy (bv_one _) (by simp only [bv_length, maxLen]; omega) (by rw [bv_length]; omega) hbase
    (fun v' w' n' h1 h2 h3 => h v' w' ⟨n', by rw [bv_append]; exact h1⟩ h2 h3)
theorem below_appB {B : Nat} {a w w' : World} {base : Nat} {e : TypeId} {v : Value} {l : List UInt8} (h : Below B a w) (hown : OwnB w base e v l) (hg : w.grownBy w' v.ownBlock) (hB : B ≤ base) (hs : B ≤ w.heap.size) : Below B a w' :=
  h.grown hg hs fun k hk => Nat.le_trans hB (hown.lt k hk).1
/-- A fresh block of one byte, as 'append(b, x)' lays it. -/
theorem bs_new (w : World) (x : Int) (t : TypeId) (h : 0 ≤ x ∧ x < 256) : Bs (w.alloc (.cells #[.int .u8 x] t)) (w.heap.size + 1) (.slice (some ⟨w.heap.size, 0, none⟩) 1 1) [UInt8.ofNat x.toNat] := by
  have h1 := sl_new w #[.int .u8 x] t 1 1 rfl (by decide)
  have e : bv [UInt8.ofNat x.toNat] = [.int .u8 x] := by
    unfold bv
    simp only [List.map_cons, List.map_nil, UInt8.toNat_ofNat']
    congr 2
    omega
  unfold Bs; rw [e]; exact h1
end Go.Proofs.YtmbppnbekkbibaaGreatDoor

/- Plain facts on decimal numerals: which texts are one, and which number they say; no program in sight. -/
set_option linter.unusedVariables false
namespace Go.Proofs.YtmbppnbekkbibaaGreatDoor
open Go.RowKit

def isDig (c : UInt8) : Bool := decide (48 ≤ c.toNat) && decide (c.toNat ≤ 57)
theorem isDig_iff {c : UInt8} : isDig c = true ↔ 48 ≤ c.toNat ∧ c.toNat ≤ 57 := by simp [isDig]
/-- The number that digits say, behind acc. -/
def digStep (n : Nat) (c : UInt8) : Nat := 10 * n + (c.toNat - 48)
def valFrom (acc : Nat) (l : List UInt8) : Nat := l.foldl digStep acc
theorem valFrom_nil (acc : Nat) : valFrom acc [] = acc := by unfold valFrom; rw [List.foldl_nil]
theorem valFrom_cons (acc : Nat) (c : UInt8) (r : List UInt8) : valFrom acc (c :: r) = valFrom (10 * acc + (c.toNat - 48)) r := by
  unfold valFrom; rw [List.foldl_cons]; unfold digStep; exact Eq.refl _
theorem valFrom_append (a b : List UInt8) (acc : Nat) : valFrom acc (a ++ b) = valFrom (valFrom acc a) b := by unfold valFrom; rw [List.foldl_append]
theorem valFrom_snoc (a : List UInt8) (c : UInt8) (acc : Nat) : valFrom acc (a ++ [c]) = 10 * valFrom acc a + (c.toNat - 48) := by
  rw [valFrom_append, valFrom_cons, valFrom_nil]
theorem valFrom_ge : ∀ (l : List UInt8) (acc : Nat), acc * 10 ^ l.length ≤ valFrom acc l
  | [], acc => by rw [valFrom_nil, List.length_nil, Nat.pow_zero, Nat.mul_one]; exact Nat.le_refl _
  | c :: r, acc => by
    rw [valFrom_cons]
    have h := valFrom_ge r (10 * acc + (c.toNat - 48))
    refine Nat.le_trans ?_ h
    have e : acc * 10 ^ (c :: r).length = (10 * acc) * 10 ^ r.length := by
      rw [List.length_cons, Nat.pow_succ, Nat.mul_comm (10 ^ r.length) 10, ← Nat.mul_assoc, Nat.mul_comm acc 10]
    rw [e]
    exact Nat.mul_le_mul_right _ (Nat.le_add_right _ _)
/-- A text that is a numeral: digits, none ahead that says nothing. -/
def Canon (l : List UInt8) : Prop := l ≠ [] ∧ (∀ c ∈ l, isDig c = true) ∧ (l.length = 1 ∨ l.head? ≠ some 48)
instance (l : List UInt8) : Decidable (Canon l) := by unfold Canon; infer_instance
def parseN (l : List UInt8) : Option Nat := if Canon l ∧ valFrom 0 l < 9223372036854775808 then some (valFrom 0 l) else none
def parseV (l : List UInt8) : Int × Bool := match parseN l with | some n => ((n : Int), true) | none => (0, false)

theorem canon_pos {l : List UInt8} (h : Canon l) (hl : 2 ≤ l.length) : 10 ^ (l.length - 1) ≤ valFrom 0 l := by
  obtain ⟨h0, hd, hh⟩ := h
  cases l with
  | nil => exact absurd rfl h0
  | cons c r =>
    have hc := isDig_iff.1 (hd c (List.mem_cons_self ..))
    have hne : c.toNat ≠ 48 := by
      rcases hh with hh | hh
      · simp at hh hl; subst hh; simp at hl
      · intro e; apply hh; simp; exact UInt8.toNat_inj.1 e
    rw [valFrom_cons]
    have := valFrom_ge r (10 * 0 + (c.toNat - 48))
    simp only [List.length_cons, Nat.add_sub_cancel]
    calc 10 ^ r.length = 1 * 10 ^ r.length := by omega
      _ ≤ (10 * 0 + (c.toNat - 48)) * 10 ^ r.length := Nat.mul_le_mul_right _ (by omega)
      _ ≤ _ := this
theorem ofNat_dig {c : UInt8} (h : isDig c = true) : UInt8.ofNat (48 + (c.toNat - 48)) = c := by
  have := isDig_iff.1 h
  apply UInt8.toNat_inj.1
  rw [UInt8.toNat_ofNat']; omega
theorem dec_canon : ∀ (n : Nat) (l : List UInt8), l.length = n → Canon l → Lib.decDigits (valFrom 0 l) = l := by
  intro n
  induction n with
  | zero => intro l hl h; exact absurd (List.eq_nil_of_length_eq_zero hl) h.1
  | succ n ih =>
    intro l hl h
    rcases List.eq_nil_or_concat l with rfl | ⟨a, c, rfl⟩
    · exact absurd rfl h.1
    rw [List.concat_eq_append] at *
    have hc := h.2.1 c (by simp)
    have hc2 := isDig_iff.1 hc
    rw [valFrom_snoc]
    by_cases ha : a = []
    · subst ha
      have e0 : valFrom 0 [] = 0 := valFrom_nil 0
      rw [e0, Nat.mul_zero, Nat.zero_add, Lib.decDigits_one (by omega), ofNat_dig hc, List.nil_append]
    · have hal : 0 < a.length := List.length_pos_iff.2 ha
      have hhead : a.head? ≠ some 48 := by
        rcases h.2.2 with h1 | h1
        · simp at h1; exact absurd h1 ha
        · intro e; apply h1
          cases a with
          | nil => exact absurd rfl ha
          | cons x r => simpa using e
      have hca : Canon a := ⟨ha, fun x hx => h.2.1 x (by simp [hx]), .inr hhead⟩
      have hpos : 1 ≤ valFrom 0 a := by
        by_cases h2 : 2 ≤ a.length
        · have := canon_pos hca h2
          have : 0 < 10 ^ (a.length - 1) := Nat.pow_pos (by decide)
          omega
        · cases a with
          | nil => exact absurd rfl ha
          | cons x r =>
            have hr : r = [] := List.eq_nil_of_length_eq_zero (by have : (x :: r).length = r.length + 1 := rfl; omega)
            subst hr
            have hx := isDig_iff.1 (hca.2.1 x (by simp))
            have hne : x.toNat ≠ 48 := fun e => hhead (by simp; exact UInt8.toNat_inj.1 e)
            rw [valFrom_cons, valFrom_nil]; omega
      rw [Lib.decDigits, dif_neg (by omega)]
      have e1 : (10 * valFrom 0 a + (c.toNat - 48)) / 10 = valFrom 0 a := by omega
      have e2 : (10 * valFrom 0 a + (c.toNat - 48)) % 10 = c.toNat - 48 := by omega
      rw [e1, e2, ih a (by simp at hl; omega) hca, ofNat_dig hc]
theorem dec_is (u : Nat) : Canon (Lib.decDigits u) ∧ valFrom 0 (Lib.decDigits u) = u ∧ (1 ≤ u → (Lib.decDigits u).head? ≠ some 48) := by
  induction u using Nat.strongRecOn with
  | ind u ih =>
    rw [Lib.decDigits]
    by_cases h : u < 10
    · rw [dif_pos h]
      have e : (UInt8.ofNat (48 + u)).toNat = 48 + u := by rw [UInt8.toNat_ofNat']; omega
      refine ⟨⟨by simp, ?_, .inl rfl⟩, ?_, ?_⟩
      · intro c hc
        obtain rfl : c = UInt8.ofNat (48 + u) := by simpa using hc
        rw [isDig_iff, e]; omega
      · rw [valFrom_cons, valFrom_nil, e]; omega
      · intro h1 h2
        have : UInt8.ofNat (48 + u) = 48 := by simpa using h2
        have := congrArg UInt8.toNat this
        rw [e] at this
        have h48 : (48 : UInt8).toNat = 48 := rfl
        omega
    · rw [dif_neg h]
      obtain ⟨⟨h0, h1, h2⟩, h3, h4⟩ := ih (u / 10) (by omega)
      have e : (UInt8.ofNat (48 + u % 10)).toNat = 48 + u % 10 := by rw [UInt8.toNat_ofNat']; omega
      have hh := h4 (by omega)
      have hh2 : (Lib.decDigits (u / 10) ++ [UInt8.ofNat (48 + u % 10)]).head? ≠ some 48 := by
        cases hd : Lib.decDigits (u / 10) with
        | nil => exact absurd hd h0
        | cons x r => rw [hd] at hh; simpa using hh
      refine ⟨⟨by simp, ?_, .inr hh2⟩, ?_, fun _ => hh2⟩
      · intro c hc
        rcases List.mem_append.1 hc with hc | hc
        · exact h1 c hc
        · obtain rfl : c = UInt8.ofNat (48 + u % 10) := by simpa using hc
          rw [isDig_iff, e]; omega
      · rw [valFrom_snoc, h3, e]; omega
theorem parseN_iff {l : List UInt8} {n : Nat} : parseN l = some n ↔ n < 9223372036854775808 ∧ l = Lib.decDigits n := by
  unfold parseN
  constructor
  · intro h
    split at h
    · rename_i hc
      injection h with h
      subst h
      exact ⟨hc.2, (dec_canon _ l rfl hc.1).symm⟩
    · cases h
  · rintro ⟨h, rfl⟩
    have := dec_is n
    rw [if_pos ⟨this.1, by rw [this.2.1]; exact h⟩, this.2.1]
theorem parseUint_val : ∀ (l : List UInt8) (acc : Nat), (∀ c ∈ l, isDig c = true) → valFrom acc l < 18446744073709551616 → Lib.parseUint10 acc l = .ok (valFrom acc l)
  | [], acc, _, _ => by rw [valFrom_nil]; rfl
  | c :: r, acc, h, hlt => by
    have hc := isDig_iff.1 (h c (List.mem_cons_self ..))
    have hv : valFrom acc (c :: r) = valFrom (10 * acc + (c.toNat - 48)) r := valFrom_cons acc c r
    rw [hv] at hlt
    have h1 := valFrom_ge r (10 * acc + (c.toNat - 48))
    have hp : 0 < 10 ^ r.length := Nat.pow_pos (by decide)
    have h2 : 10 * acc + (c.toNat - 48) ≤ (10 * acc + (c.toNat - 48)) * 10 ^ r.length := Nat.le_mul_of_pos_right _ hp
    unfold Lib.parseUint10
    rw [if_pos hc, if_neg (by omega), if_neg (by omega), Nat.mul_comm acc 10, hv]
    exact parseUint_val r _ (fun x hx => h x (List.mem_cons_of_mem _ hx)) hlt
theorem atoi_dec {n : Nat} (h : n < 9223372036854775808) : Lib.atoiAll (Lib.decDigits n) = .ok (n : Int) := by
  obtain ⟨⟨h0, h1, h2⟩, h3, h4⟩ := dec_is n
  have hp := parseUint_val (Lib.decDigits n) 0 h1 (by rw [h3]; omega)
  rw [h3] at hp
  unfold Lib.atoiAll
  cases hd : Lib.decDigits n with
  | nil => exact absurd hd h0
  | cons c r =>
    have hc := isDig_iff.1 (h1 c (by rw [hd]; exact List.mem_cons_self ..))
    rw [hd] at hp
    dsimp only
    rw [if_neg (show ¬ (c.toNat = 43 ∨ c.toNat = 45) from by omega)]
    unfold Lib.parseMag
    rw [if_neg (by simp), hp]
    dsimp only
    rw [if_neg (by omega), if_neg (by omega), if_neg (by omega)]
theorem atoi_lt {l : List UInt8} {v : Int} (h : Lib.atoiAll l = .ok v) : v < 9223372036854775808 := by
  unfold Lib.atoiAll at h
  split at h
  · cases h
  · rename_i c r
    dsimp only at h
    split at h
    · cases h
    · cases h
    · rename_i u hu
      by_cases hn : c.toNat = 45
      · simp only [hn, not_true_eq_false, false_and, if_false, true_and, if_true] at h
        split at h
        · cases h
        · injection h with h; omega
      · simp only [hn, not_false_eq_true, true_and, false_and, if_false] at h
        split at h
        · cases h
        · injection h with h; omega
/-- What word's Parse makes of it: the number that Atoi says, if it is shown so again. -/
theorem parse_of_atoi (l : List UInt8) : parseV l = (match Lib.atoiAll l with | .ok v => if v < 0 ∨ Lib.itoa v ≠ l then (0, false) else (v, true) | _ => (0, false)) := by
  unfold parseV
  cases hp : parseN l with
  | some n =>
    obtain ⟨hn, rfl⟩ := parseN_iff.1 hp
    rw [atoi_dec hn]
    dsimp only
    rw [if_neg]
    rintro (h | h)
    · omega
    · exact h (Lib.itoa_nonneg n)
  | none =>
    cases ha : Lib.atoiAll l with
    | ok v =>
      dsimp only
      rw [if_pos]
      by_cases h0 : v < 0
      · exact .inl h0
      · refine .inr fun he => ?_
        have hv := atoi_lt ha
        obtain ⟨n, rfl⟩ := Int.eq_ofNat_of_zero_le (show 0 ≤ v by omega)
        have e : Lib.itoa (n : Int) = Lib.decDigits n := Lib.itoa_nonneg n
        have := parseN_iff.2 ⟨show n < 9223372036854775808 by omega, (e.symm.trans he).symm⟩
        rw [hp] at this; cases this
    | _ => rfl
end Go.Proofs.YtmbppnbekkbibaaGreatDoor
end
section
/- Texts that belong together: PX, PY, PK, PP, PQ, PA. -/
/- Texts as tokens, in plain Lean. -/
set_option linter.unusedVariables false
namespace Go.Proofs.YtmbppnbekkbibaaGreatDoor

abbrev Bt := List UInt8
def letterB (c : UInt8) : Bool := (decide (97 ≤ c.toNat) && decide (c.toNat ≤ 122)) || (decide (65 ≤ c.toNat) && decide (c.toNat ≤ 90)) || decide (c.toNat = 95)
def digitB (c : UInt8) : Bool := decide (48 ≤ c.toNat) && decide (c.toNat ≤ 57)
def innerB (c : UInt8) : Bool := letterB c || digitB c
def blankB (c : UInt8) : Bool := decide (c.toNat = 32) || decide (c.toNat = 9) || decide (c.toNat = 10) || decide (c.toNat = 13)
def notLine (c : UInt8) : Bool := !decide (c.toNat = 10)
/-- How many bytes at the beginning are of a sort. -/
def rowL (p : UInt8 → Bool) (s : Bt) : Nat := (s.takeWhile p).length
theorem rowL_le (p : UInt8 → Bool) (s : Bt) : rowL p s ≤ s.length := by
  unfold rowL
  exact (List.takeWhile_sublist p).length_le
theorem rowL_cons (p : UInt8 → Bool) (c : UInt8) (s : Bt) : rowL p (c :: s) = if p c then rowL p s + 1 else 0 := by
  unfold rowL
  rw [List.takeWhile_cons]
  split <;> simp
/-- The row goes on to just the first byte that is not of the sort. -/
theorem rowL_at {p : UInt8 → Bool} {s : Bt} {k : Nat} (hk : k < s.length) (h : ∀ j (hj : j < k), p (s[j]'(by omega)) = true) (hn : p s[k] = false) : rowL p s = k := by
  induction s generalizing k with
  | nil => simp at hk
  | cons c s ih =>
    rw [rowL_cons]
    rcases k with _ | k
    · rw [if_neg (by simpa using hn)]
    · have h0 := h 0 (by omega)
      simp only [List.getElem_cons_zero] at h0
      rw [if_pos h0, ih (by simpa using hk) (fun j hj => by simpa using h (j + 1) (by omega)) (by simpa using hn)]
theorem rowL_all {p : UInt8 → Bool} {s : Bt} (h : ∀ j (hj : j < s.length), p s[j] = true) : rowL p s = s.length := by
  induction s with
  | nil => rfl
  | cons c s ih =>
    have h0 := h 0 (by simp)
    simp only [List.getElem_cons_zero] at h0
    rw [rowL_cons, if_pos h0, ih (fun j hj => by have h1 := h (j + 1) (by simpa using hj); rw [List.getElem_cons_succ] at h1; exact h1)]
    rfl

/-- How many bytes are passed over; q: within a remark. -/
def skipG : Bool → Bt → Nat
  | _, [] => 0
  | false, c :: s => if blankB c then skipG false s + 1 else if c.toNat = 35 then skipG true s + 1 else 0
  | true, c :: s => if c.toNat = 10 then skipG false s + 1 else skipG true s + 1
def skipL (s : Bt) : Nat := skipG false s
/-- One round of it, as the program goes. -/
def skipOne (s : Bt) : Nat :=
  rowL blankB s + (if ((s.drop (rowL blankB s)).head?).map UInt8.toNat = some 35 then rowL notLine (s.drop (rowL blankB s)) else 0)
theorem skipG_le (q : Bool) (s : Bt) : skipG q s ≤ s.length := by
  induction s generalizing q with
  | nil => cases q <;> simp [skipG]
  | cons c s ih =>
    cases q with
    | false =>
      rw [skipG]
      split
      · have := ih false; simp; exact this
      · split
        · have := ih true; simp; exact this
        · simp
    | true =>
      rw [skipG]
      split
      · have := ih false; simp; exact this
      · have := ih true; simp; exact this
theorem skip_blank (s : Bt) : skipG false s = rowL blankB s + skipG false (s.drop (rowL blankB s)) := by
  induction s with
  | nil => rfl
  | cons c s ih =>
    rw [rowL_cons]
    by_cases h : blankB c = true
    · rw [if_pos h, skipG, if_pos h, ih, List.drop_succ_cons]; omega
    · rw [if_neg h]; simp
theorem skip_line (s : Bt) : skipG true s = rowL notLine s + skipG false (s.drop (rowL notLine s)) := by
  induction s with
  | nil => rfl
  | cons c s ih =>
    rw [rowL_cons]
    by_cases h : c.toNat = 10
    · have hn : notLine c = false := by unfold notLine; simp [h]
      have hb : blankB c = true := by unfold blankB; simp [h]
      rw [if_neg (by simp [hn]), skipG, if_pos h]
      show skipG false s + 1 = 0 + skipG false (c :: s)
      rw [skipG, if_pos hb]; omega
    · have hn : notLine c = true := by unfold notLine; simp [h]
      rw [if_pos hn, skipG, if_neg h, ih, List.drop_succ_cons]; omega
theorem skip_one (s : Bt) : skipL s = skipOne s + skipL (s.drop (skipOne s)) := by
  unfold skipL skipOne
  rw [skip_blank]
  generalize hr : s.drop (rowL blankB s) = r
  cases r with
  | nil => simp [skipG, hr]
  | cons c t =>
    simp only [List.head?_cons, Option.map_some, Option.some.injEq]
    by_cases h : c.toNat = 35
    · rw [if_pos h]
      have hb : blankB c = false := by unfold blankB; simp [h]
      have hn : notLine c = true := by unfold notLine; simp [h]
      rw [← List.drop_drop, hr, skipG, if_neg (by simp [hb]), if_pos h, skip_line, rowL_cons, if_pos hn, List.drop_succ_cons]; omega
    · rw [if_neg h, Nat.add_zero, hr]
theorem skip_zero {s : Bt} (h : skipOne s = 0) : skipL s = 0 := by
  have h1 : rowL blankB s = 0 := by unfold skipOne at h; omega
  unfold skipOne at h
  rw [h1] at h
  cases s with
  | nil => rfl
  | cons c t =>
    rw [rowL_cons] at h1
    have hb : ¬ blankB c = true := by
      intro hb; rw [if_pos hb] at h1; omega
    unfold skipL
    rw [skipG, if_neg hb]
    simp only [List.drop_zero, List.head?_cons, Option.map_some, Option.some.injEq] at h
    by_cases h35 : c.toNat = 35
    · rw [if_pos h35, rowL_cons, if_pos (by unfold notLine; simp [h35])] at h; omega
    · rw [if_neg h35]

/-- Where one stands behind a byte. -/
def advB (p : Nat × Nat) (c : UInt8) : Nat × Nat := if c.toNat = 10 then (p.1 + 1, 1) else (p.1, p.2 + 1)
def advL (p : Nat × Nat) (s : Bt) : Nat × Nat := s.foldl advB p
theorem advL_append (p : Nat × Nat) (a b : Bt) : advL p (a ++ b) = advL (advL p a) b := by unfold advL; rw [List.foldl_append]
theorem advL_take {p : Nat × Nat} {s : Bt} {k : Nat} (h : k < s.length) : advL p (s.take (k + 1)) = advB (advL p (s.take k)) s[k] := by
  rw [List.take_succ_eq_append_getElem h, advL_append]; rfl

def escB (c : UInt8) : Option UInt8 := if c.toNat = 92 then some 92 else if c.toNat = 34 then some 34 else if c.toNat = 110 then some 10 else if c.toNat = 116 then some 9 else none
/-- A string's bytes, read from behind its first quote: what it says, how long it is with both quotes; back: behind a backslash. -/
def quoteG : Bool → Bt → Nat → Bt → Option (Bt × Nat)
  | _, _, _, [] => none
  | back, out, i, c :: s =>
    if c.toNat < 32 then none else
    if back then (match escB c with | some e => quoteG false (out ++ [e]) (i + 1) s | none => none) else
    if c.toNat = 92 then quoteG true out (i + 1) s else
    if c.toNat = 34 then some (out, i + 2) else quoteG false (out ++ [c]) (i + 1) s
def quoteL (s : Bt) : Option (Bt × Nat) := quoteG false [] 0 (s.drop 1)
theorem quoteG_le {back : Bool} {out : Bt} {i : Nat} {s : Bt} {r : Bt × Nat} (h : quoteG back out i s = some r) : i + 2 ≤ r.2 ∧ r.2 ≤ i + s.length + 1 ∧ r.1.length ≤ out.length + s.length := by
  induction s generalizing back out i with
  | nil => cases back <;> simp [quoteG] at h
  | cons c s ih =>
    rw [quoteG] at h
    split at h
    · cases h
    · split at h
      · split at h
        · obtain ⟨a, b, d⟩ := ih h
          simp only [List.length_append, List.length_cons, List.length_nil] at *; omega
        · cases h
      · split at h
        · obtain ⟨a, b, d⟩ := ih h
          simp only [List.length_append, List.length_cons, List.length_nil] at *; omega
        · split at h
          · injection h with h; subst h; simp only [List.length_cons]; omega
          · obtain ⟨a, b, d⟩ := ih h
            simp only [List.length_append, List.length_cons, List.length_nil] at *; omega
end Go.Proofs.YtmbppnbekkbibaaGreatDoor

/- Tokens, in plain Lean: what stands at the beginning of a text, and a text's tokens. -/
set_option linter.unusedVariables false
namespace Go.Proofs.YtmbppnbekkbibaaGreatDoor

def wordsL : List Bt := [[97, 110, 100],
  [97, 110, 121],
  [97, 115],
  [98, 111, 111, 108],
  [101, 108, 115, 101],
  [101, 120, 112, 111, 114, 116],
  [102, 97, 108, 115, 101],
  [102, 110],
  [102, 117, 110, 99, 116, 105, 111, 110],
  [105, 102],
  [105, 109, 112, 111, 114, 116],
  [105, 110],
  [105, 110, 116],
  [105, 115],
  [108, 101, 116],
  [110, 111, 116],
  [110, 117, 108, 108],
  [111, 114],
  [112, 114, 105, 110, 116],
  [114, 101, 97, 100],
  [114, 101, 99, 111, 114, 100],
  [115, 116, 114],
  [116, 104, 101, 110],
  [116, 114, 117, 101],
  [119, 105, 116, 104]]
def pairsL : List Bt := [[45, 62], [61, 62], [60, 58], [60, 60], [60, 61], [62, 62], [61, 61], [43, 43]]
def singlesL : Bt := [40, 41, 123, 125, 91, 93, 44, 58, 59, 61, 43, 45, 42, 47, 37, 38, 94, 60, 124, 46]
/-- What may be a name. -/
def nameL (s : Bt) : Bool := match s with
  | [] => false
  | c :: r => decide ((c :: r).length ≤ 32) && letterB c && decide (rowL innerB (c :: r) = (c :: r).length) && !decide ((c :: r) ∈ wordsL)
/-- The token that a text begins with: an error, or its kind, its text, how long it is. -/
def nextT (s : Bt) : Int ⊕ (Int × Bt × Nat) :=
  match s with
  | [] => .inl 5
  | c :: r =>
    if letterB c then
      (if 32 < rowL innerB (c :: r) then .inl 2 else if (c :: r).take (rowL innerB (c :: r)) ∈ wordsL then .inr (2, (c :: r).take (rowL innerB (c :: r)), rowL innerB (c :: r)) else .inr (1, (c :: r).take (rowL innerB (c :: r)), rowL innerB (c :: r)))
    else if digitB c then
      (if (parseV ((c :: r).take (rowL digitB (c :: r)))).2 then .inr (3, (c :: r).take (rowL digitB (c :: r)), rowL digitB (c :: r)) else .inl 3)
    else if c.toNat = 34 then
      (match quoteL (c :: r) with
        | none => .inl 4
        | some (t, n) => if 256 < t.length then .inl 2 else .inr (4, t, n))
    else if (c :: r).take 2 ∈ pairsL then .inr (5, (c :: r).take 2, 2)
    else if c ∈ singlesL then .inr (5, [c], 1) else .inl 5
structure TokD where
  kind : Int
  text : Bt
  line : Nat
  col : Nat
/-- The tokens from some place on, or the fault. -/
def lexF : Nat → Bt → Nat × Nat → List TokD → List TokD × (Nat × Nat × Int)
  | 0, _, _, _ => ([], (0, 0, 0))
  | f + 1, s, p, out =>
    if s.drop (skipL s) = [] then (out ++ [⟨0, [], (advL p (s.take (skipL s))).1, (advL p (s.take (skipL s))).2⟩], (0, 0, 0)) else
    match nextT (s.drop (skipL s)) with
    | .inl e => ([], ((advL p (s.take (skipL s))).1, (advL p (s.take (skipL s))).2, e))
    | .inr (kd, t, n) =>
      if out.length = 8192 then ([], ((advL p (s.take (skipL s))).1, (advL p (s.take (skipL s))).2, 19)) else
      lexF f ((s.drop (skipL s)).drop n) (advL (advL p (s.take (skipL s))) ((s.drop (skipL s)).take n)) (out ++ [⟨kd, t, (advL p (s.take (skipL s))).1, (advL p (s.take (skipL s))).2⟩])
def lexL (s : Bt) : List TokD × (Nat × Nat × Int) := if 65536 < s.length then ([], (1, 1, 2)) else lexF (s.length + 1) s (1, 1) []
theorem rowL_pos {p : UInt8 → Bool} {c : UInt8} {s : Bt} (h : p c = true) : 1 ≤ rowL p (c :: s) := by
  rw [rowL_cons, if_pos h]; omega
/-- A token has a byte at least, and no more than there are. -/
theorem nextT_le {s : Bt} {kd : Int} {t : Bt} {n : Nat} (h : nextT s = .inr (kd, t, n)) : 1 ≤ n ∧ n ≤ s.length := by
  cases s with
  | nil => simp [nextT] at h
  | cons c r =>
    rw [nextT] at h
    split at h
    · rename_i hl
      have hi : innerB c = true := by unfold innerB; rw [hl]; rfl
      have h1 := rowL_pos (s := r) hi
      have h2 := rowL_le innerB (c :: r)
      split at h
      · cases h
      · split at h
        · injection h with h; simp only [Prod.mk.injEq] at h; omega
        · injection h with h; simp only [Prod.mk.injEq] at h; omega
    · split at h
      · rename_i hd
        have h1 := rowL_pos (s := r) hd
        have h2 := rowL_le digitB (c :: r)
        split at h
        · injection h with h; simp only [Prod.mk.injEq] at h; omega
        · cases h
      · split at h
        · split at h
          · cases h
          · rename_i t' n' hq
            have := quoteG_le hq
            split at h
            · cases h
            · injection h with h; simp only [Prod.mk.injEq] at h
              simp only [List.drop_succ_cons, List.drop_zero] at this
              simp only [List.length_cons]; omega
        · split at h
          · rename_i hp
            injection h with h; simp only [Prod.mk.injEq] at h
            have h2 : ((c :: r).take 2).length = 2 := by
              have hall : ∀ m ∈ pairsL, m.length = 2 := by decide
              exact hall _ hp
            rw [List.length_take] at h2
            simp only [List.length_cons] at h2 ⊢; omega
          · split at h
            · injection h with h; simp only [Prod.mk.injEq] at h
              simp only [List.length_cons]; omega
            · cases h
theorem nextT_err {s : Bt} {e : Int} (h : nextT s = .inl e) : e ≠ 0 := by
  cases s with
  | nil => simp [nextT] at h; omega
  | cons c r =>
    rw [nextT] at h
    repeat' split at h
    all_goals first | (injection h with h; omega) | cases h
end Go.Proofs.YtmbppnbekkbibaaGreatDoor

/- What a text's tokens are, kind by kind. -/
set_option linter.unusedVariables false
namespace Go.Proofs.YtmbppnbekkbibaaGreatDoor

theorem rowL_take (p : UInt8 → Bool) (s : Bt) : rowL p (s.take (rowL p s)) = rowL p s := by
  induction s with
  | nil => rfl
  | cons c r ih =>
    rw [rowL_cons]
    by_cases h : p c = true
    · rw [if_pos h, List.take_succ_cons, rowL_cons, if_pos h, ih]
    · rw [if_neg h]; rfl
/-- A token is what its kind says. -/
def KindOk (kd : Int) (t : Bt) : Prop :=
  1 ≤ kd ∧ kd ≤ 5 ∧ (kd = 2 → t ∈ wordsL) ∧ (kd = 1 → nameL t = true) ∧ (kd = 3 → ∃ c r, t = c :: r ∧ digitB c = true) ∧ (kd = 5 → 1 ≤ t.length ∧ t.length ≤ 2)
theorem nextT_kind {s : Bt} {kd : Int} {t : Bt} {n : Nat} (h : nextT s = .inr (kd, t, n)) : KindOk kd t := by
  cases s with
  | nil => simp [nextT] at h
  | cons c r =>
    rw [nextT] at h
    have hle := rowL_le innerB (c :: r)
    have htk := rowL_take innerB (c :: r)
    by_cases hl : letterB c = true
    · rw [if_pos hl] at h
      have hi : innerB c = true := by unfold innerB; rw [hl]; rfl
      have hpos := rowL_pos (s := r) hi
      by_cases h32 : 32 < rowL innerB (c :: r)
      · rw [if_pos h32] at h; cases h
      · rw [if_neg h32] at h
        by_cases hw : (c :: r).take (rowL innerB (c :: r)) ∈ wordsL
        · rw [if_pos hw] at h
          injection h with h
          simp only [Prod.mk.injEq] at h
          obtain ⟨rfl, rfl, _⟩ := h
          exact ⟨by omega, by omega, fun _ => hw, fun h => by omega, fun h => by omega, fun h => by omega⟩
        · rw [if_neg hw] at h
          injection h with h
          simp only [Prod.mk.injEq] at h
          obtain ⟨rfl, rfl, _⟩ := h
          refine ⟨by omega, by omega, fun h => by omega, fun _ => ?_, fun h => by omega, fun h => by omega⟩
          have hlen : ((c :: r).take (rowL innerB (c :: r))).length = rowL innerB (c :: r) := by rw [List.length_take]; omega
          generalize hn : rowL innerB (c :: r) = m at *
          obtain ⟨m', rfl⟩ : ∃ m', m = m' + 1 := ⟨m - 1, by omega⟩
          rw [List.take_succ_cons] at htk hw hlen ⊢
          unfold nameL
          simp only [Bool.and_eq_true, decide_eq_true_eq, Bool.not_eq_true', decide_eq_false_iff_not]
          exact ⟨⟨⟨by rw [hlen]; omega, hl⟩, by rw [htk, hlen]⟩, hw⟩
    · rw [if_neg hl] at h
      by_cases hd : digitB c = true
      · rw [if_pos hd] at h
        have hpos := rowL_pos (s := r) hd
        split at h
        · injection h with h
          simp only [Prod.mk.injEq] at h
          obtain ⟨rfl, rfl, _⟩ := h
          refine ⟨by omega, by omega, fun h => by omega, fun h => by omega, fun _ => ?_, fun h => by omega⟩
          obtain ⟨m', hm⟩ : ∃ m', rowL digitB (c :: r) = m' + 1 := ⟨rowL digitB (c :: r) - 1, by omega⟩
          rw [hm, List.take_succ_cons]
          exact ⟨_, _, rfl, hd⟩
        · cases h
      · rw [if_neg hd] at h
        split at h
        · split at h
          · cases h
          · split at h
            · cases h
            · injection h with h
              simp only [Prod.mk.injEq] at h
              obtain ⟨rfl, rfl, _⟩ := h
              exact ⟨by omega, by omega, fun h => by omega, fun h => by omega, fun h => by omega, fun h => by omega⟩
        · split at h
          · rename_i hp
            injection h with h
            simp only [Prod.mk.injEq] at h
            obtain ⟨rfl, rfl, _⟩ := h
            have hall : ∀ m ∈ pairsL, m.length = 2 := by decide
            have := hall _ hp
            exact ⟨by omega, by omega, fun h => by omega, fun h => by omega, fun h => by omega, fun _ => by omega⟩
          · split at h
            · injection h with h
              simp only [Prod.mk.injEq] at h
              obtain ⟨rfl, rfl, _⟩ := h
              exact ⟨by omega, by omega, fun h => by omega, fun h => by omega, fun h => by omega, fun _ => ⟨by simp, by simp⟩⟩
            · cases h
end Go.Proofs.YtmbppnbekkbibaaGreatDoor

/- Where a text's tokens stand. -/
set_option linter.unusedVariables false
namespace Go.Proofs.YtmbppnbekkbibaaGreatDoor

/-- Where one stands behind so many bytes of a text. -/
def posL (text : Bt) (a : Nat) : Nat × Nat := advL (1, 1) (text.take a)
/-- Each token but a string stands in the text at its place. -/
inductive Placed (text : Bt) : Nat → List TokD → Prop where
  | done (a : Nat) : a ≤ text.length → Placed text a [⟨0, [], (posL text text.length).1, (posL text text.length).2⟩]
  | next (a b n : Nat) (t : TokD) (l : List TokD) : a ≤ b → posL text b = (t.line, t.col) → (t.kind ≠ 4 → t.text = (text.drop b).take n) → t.kind ≠ 0 → 1 ≤ n → b + n ≤ text.length → Placed text (b + n) l → Placed text a (t :: l)
/-- Places rise. -/
def before (p q : Nat × Nat) : Prop := p.1 < q.1 ∨ (p.1 = q.1 ∧ p.2 < q.2)
end Go.Proofs.YtmbppnbekkbibaaGreatDoor

/- Texts put together: what is read of a text, whatever blank stands behind it. -/
set_option linter.unusedVariables false
namespace Go.Proofs.YtmbppnbekkbibaaGreatDoor

theorem rowL_stop {p : UInt8 → Bool} {c : UInt8} (hp : p c = false) (s r : Bt) : rowL p (s ++ c :: r) = rowL p s := by
  induction s with
  | nil => rw [List.nil_append, rowL_cons, if_neg (by simp [hp])]; rfl
  | cons d s ih =>
    rw [List.cons_append, rowL_cons, rowL_cons]
    by_cases h : p d = true
    · rw [if_pos h, if_pos h, ih]
    · rw [if_neg h, if_neg h]
theorem blank_inner {c : UInt8} (h : blankB c = true) : innerB c = false ∧ digitB c = false ∧ letterB c = false := by
  unfold blankB at h
  simp only [Bool.or_eq_true, decide_eq_true_eq] at h
  unfold innerB letterB digitB
  simp only [Bool.or_eq_false_iff, Bool.and_eq_false_iff, decide_eq_false_iff_not]
  omega
theorem quoteG_more {back : Bool} {out : Bt} {i : Nat} {s : Bt} {r : Bt × Nat} (h : quoteG back out i s = some r) (x : Bt) : quoteG back out i (s ++ x) = some r := by
  induction s generalizing back out i with
  | nil => cases back <;> simp [quoteG] at h
  | cons c s ih =>
    rw [quoteG] at h
    rw [List.cons_append, quoteG]
    split at h
    · cases h
    · rename_i h32
      rw [if_neg h32]
      split at h
      · rename_i hb
        rw [if_pos hb]
        split at h
        · exact ih h
        · cases h
      · rename_i hb
        rw [if_neg hb]
        split at h
        · rename_i h92
          rw [if_pos h92]
          exact ih h
        · rename_i h92
          rw [if_neg h92]
          split at h
          · rename_i h34
            rw [if_pos h34]; exact h
          · rename_i h34
            rw [if_neg h34]; exact ih h
theorem pairs_two : ∀ m ∈ pairsL, m.length = 2 := by decide
theorem pairs_blank (c d : UInt8) (hd : blankB d = true) : [c, d] ∉ pairsL := by
  intro h
  have hall : (pairsL.all fun m => !blankB (m.getD 1 0)) = true := by decide
  have := List.all_eq_true.1 hall _ h
  simp [hd] at this
/-- A token is read as it is, whatever stands behind a blank behind it. -/
theorem nextT_stop {s : Bt} {kd : Int} {t : Bt} {n : Nat} {d : UInt8} (x : Bt) (hd : blankB d = true) (h : nextT s = .inr (kd, t, n)) : nextT (s ++ d :: x) = .inr (kd, t, n) := by
  obtain ⟨hi, hdg, _⟩ := blank_inner hd
  cases s with
  | nil => simp [nextT] at h
  | cons c r =>
    have hri := rowL_le innerB (c :: r)
    have hrd := rowL_le digitB (c :: r)
    rw [nextT] at h
    rw [List.cons_append, nextT, ← List.cons_append, rowL_stop hi, rowL_stop hdg, List.take_append_of_le_length hri, List.take_append_of_le_length hrd]
    split at h
    · rename_i hl
      rw [if_pos hl]; exact h
    · rename_i hl
      rw [if_neg hl]
      split at h
      · rename_i hg
        rw [if_pos hg]; exact h
      · rename_i hg
        rw [if_neg hg]
        split at h
        · rename_i h34
          rw [if_pos h34]
          split at h
          · cases h
          · rename_i t' n' hq
            have hq' : quoteL (c :: r ++ d :: x) = some (t', n') := by
              unfold quoteL at hq ⊢
              simp only [List.cons_append, List.drop_succ_cons, List.drop_zero] at hq ⊢
              exact quoteG_more hq _
            rw [hq']
            exact h
        · rename_i h34
          rw [if_neg h34]
          cases r with
          | nil =>
            have h2 : ¬ [c] ∈ pairsL := fun hm => by have := pairs_two _ hm; simp at this
            rw [if_neg (by simpa using h2)] at h
            rw [if_neg (show ¬ (([c] ++ d :: x : Bt).take 2 ∈ pairsL) from pairs_blank c d hd)]
            exact h
          | cons e r => exact h
theorem skipG_stop {q : Bool} {s : Bt} (h : skipG q s < s.length) (x : Bt) : skipG q (s ++ x) = skipG q s := by
  induction s generalizing q with
  | nil => simp at h
  | cons c s ih =>
    rw [List.cons_append]
    cases q with
    | false =>
      rw [skipG] at h ⊢
      rw [skipG]
      by_cases hb : blankB c = true
      · rw [if_pos hb] at h ⊢
        rw [if_pos hb, ih (by simpa using h)]
      · rw [if_neg hb] at h ⊢
        rw [if_neg hb]
        by_cases h35 : c.toNat = 35
        · rw [if_pos h35] at h ⊢
          rw [if_pos h35, ih (by simpa using h)]
        · rw [if_neg h35, if_neg h35]
    | true =>
      rw [skipG] at h ⊢
      rw [skipG]
      by_cases h10 : c.toNat = 10
      · rw [if_pos h10] at h ⊢
        rw [if_pos h10, ih (by simpa using h)]
      · rw [if_neg h10] at h ⊢
        rw [if_neg h10, ih (by simpa using h)]
theorem skipG_all {q : Bool} {s : Bt} (h : s.length ≤ skipG q s) (d : UInt8) (hd : d.toNat = 10) (x : Bt) : skipG q (s ++ d :: x) = s.length + 1 + skipL x := by
  have hb : blankB d = true := by unfold blankB; simp [hd]
  induction s generalizing q with
  | nil =>
    rw [List.nil_append]
    unfold skipL
    cases q with
    | false => rw [skipG, if_pos hb]; simp; omega
    | true => rw [skipG, if_pos hd]; simp; omega
  | cons c s ih =>
    rw [List.cons_append]
    cases q with
    | false =>
      rw [skipG] at h ⊢
      by_cases hb : blankB c = true
      · rw [if_pos hb] at h ⊢
        rw [ih (by simpa using h)]; simp; omega
      · rw [if_neg hb] at h ⊢
        by_cases h35 : c.toNat = 35
        · rw [if_pos h35] at h ⊢
          rw [ih (by simpa using h)]; simp; omega
        · rw [if_neg h35] at h; simp at h
    | true =>
      rw [skipG] at h ⊢
      by_cases h10 : c.toNat = 10
      · rw [if_pos h10] at h ⊢
        rw [ih (by simpa using h)]; simp; omega
      · rw [if_neg h10] at h ⊢
        rw [ih (by simpa using h)]; simp; omega

/-- A text that is read whole, a new line and another text: first the one's tokens, then those of the other. -/
theorem lexF_join : ∀ (f : Nat) (s : Bt) (p : Nat × Nat) (out : List TokD), s.length < f → (lexF f s p out).2.2.2 = 0 →
    ∃ m e, lexF f s p out = (out ++ m ++ [e], (0, 0, 0)) ∧ e.kind = 0 ∧ e.text = [] ∧ m.length ≤ s.length ∧ (∀ t ∈ m, KindOk t.kind t.text) ∧
      ∀ (d : UInt8) (r : Bt) (F : Nat), d.toNat = 10 → s.length + 1 + r.length < F → ∃ F' q, r.length < F' ∧ lexF F (s ++ d :: r) p out = lexF F' r q (out ++ m)
  | 0, s, p, out, hf, _ => by omega
  | f + 1, s, p, out, hf, hok => by
    have hsk : skipL s ≤ s.length := skipG_le false s
    rw [lexF] at hok ⊢
    by_cases hnil : s.drop (skipL s) = []
    · rw [if_pos hnil] at hok ⊢
      refine ⟨[], _, by rw [List.append_nil], rfl, rfl, by simp, by simp, fun d r F hd hF => ⟨F, advL p (s ++ [d]), by omega, ?_⟩⟩
      have hall : s.length ≤ skipL s := by simpa using hnil
      have e1 : skipL (s ++ d :: r) = s.length + 1 + skipL r := skipG_all hall d hd r
      obtain ⟨F0, rfl⟩ : ∃ F0, F = F0 + 1 := ⟨F - 1, by omega⟩
      have e2 : (s ++ d :: r).drop (s.length + 1 + skipL r) = r.drop (skipL r) := by
        rw [List.append_cons, ← List.drop_drop, show s.length + 1 = (s ++ [d]).length by simp, List.drop_left]
      have e3 : (s ++ d :: r).take (s.length + 1 + skipL r) = (s ++ [d]) ++ r.take (skipL r) := by
        rw [List.append_cons, List.take_add, show s.length + 1 = (s ++ [d]).length by simp, List.take_left, List.drop_left]
      rw [lexF, lexF, e1, e2, e3, advL_append, List.append_nil]
    · rw [if_neg hnil] at hok ⊢
      have hlt : skipL s < s.length := by
        rcases Nat.lt_or_ge (skipL s) s.length with h | h
        · exact h
        · exact absurd (List.drop_eq_nil_of_le h) hnil
      cases hn : nextT (s.drop (skipL s)) with
      | inl e => rw [hn] at hok; exact absurd hok (nextT_err hn)
      | inr x =>
        obtain ⟨kd, t, n⟩ := x
        rw [hn] at hok
        simp only at hok ⊢
        by_cases h8 : out.length = 8192
        · rw [if_pos h8] at hok; exact absurd (show (19 : Int) = 0 from hok) (by decide)
        · rw [if_neg h8] at hok ⊢
          obtain ⟨n1, n2⟩ := nextT_le hn
          obtain ⟨m, e, h1, h2, h3, h4, h4', h5⟩ := lexF_join f _ _ _ (by simp only [List.length_drop] at n2 ⊢; omega) hok
          rw [h1]
          refine ⟨_ :: m, e, by rw [List.append_assoc, List.append_assoc, List.singleton_append, List.append_assoc, List.cons_append], h2, h3, ?_, ?_, fun d r F hd hF => ?_⟩
          · simp only [List.length_drop, List.length_cons] at n2 h4 ⊢; omega
          · intro x hx
            rcases List.mem_cons.1 hx with rfl | hx
            · exact nextT_kind hn
            · exact h4' x hx
          · obtain ⟨F0, rfl⟩ : ∃ F0, F = F0 + 1 := ⟨F - 1, by omega⟩
            have hb : blankB d = true := by unfold blankB; simp [hd]
            obtain ⟨F', q, hF', h6⟩ := h5 d r F0 hd (by simp only [List.length_drop] at n2 ⊢; omega)
            refine ⟨F', q, hF', ?_⟩
            have e1 : skipL (s ++ d :: r) = skipL s := skipG_stop hlt _
            rw [lexF, e1, List.drop_append_of_le_length hsk, List.take_append_of_le_length hsk, if_neg (by simp), nextT_stop r hb hn]
            simp only
            rw [if_neg h8, List.drop_append_of_le_length n2, List.take_append_of_le_length n2, h6, List.append_assoc, List.singleton_append]

theorem lexL_F (s : Bt) (h : s.length ≤ 65536) : lexL s = lexF (s.length + 1) s (1, 1) [] := by unfold lexL; rw [if_neg (by omega)]
end Go.Proofs.YtmbppnbekkbibaaGreatDoor

/- Strings as they are written, and tokens written one behind the other. -/
set_option linter.unusedVariables false
namespace Go.Proofs.YtmbppnbekkbibaaGreatDoor

def escW (c : UInt8) : Bt := if c.toNat = 92 then [92, 92] else if c.toNat = 34 then [92, 34] else if c.toNat = 10 then [92, 110] else if c.toNat = 9 then [92, 116] else [c]
/-- A string as it is written. -/
def quoteW (t : Bt) : Bt := 34 :: (t.flatMap escW ++ [34])
end Go.Proofs.YtmbppnbekkbibaaGreatDoor
end
section
/- Texts that belong together: MS, MT, MO, MR. -/
/- Memory with a footprint: what has turned lies in a set of blocks; slices of texts. Each fact is proved of any program. -/
set_option linter.unusedVariables false
namespace Go.Proofs.YtmbppnbekkbibaaGreatDoor
open Go.RowKit

/-- Nothing of what was there has turned but the blocks of F. -/
def Turn (F : Nat → Prop) (w w' : World) : Prop :=
  w'.os = w.os ∧ w'.tape = w.tape ∧ w'.output = w.output ∧ w.heap.size ≤ w'.heap.size ∧ ∀ k, k < w.heap.size → ¬ F k → w'.heap[k]? = w.heap[k]?

section
variable {F G : Nat → Prop} {a b c w w' : World}
theorem Turn.refl (F : Nat → Prop) (w : World) : Turn F w w := ⟨rfl, rfl, rfl, Nat.le_refl _, fun _ _ _ => rfl⟩
theorem Turn.size (h : Turn F w w') : w.heap.size ≤ w'.heap.size := h.2.2.2.1
theorem Turn.block (h : Turn F w w') {k : Nat} (hk : k < w.heap.size) (hF : ¬ F k) : w'.heap[k]? = w.heap[k]? := h.2.2.2.2 k hk hF
theorem Turn.trans (h : Turn F a b) (k : Turn G b c) (hG : ∀ i, i < a.heap.size → G i → F i) : Turn F a c :=
  ⟨k.1.trans h.1, k.2.1.trans h.2.1, k.2.2.1.trans h.2.2.1, Nat.le_trans h.size k.size, fun i hi hF =>
    (k.block (Nat.lt_of_lt_of_le hi h.size) (fun hg => hF (hG i hi hg))).trans (h.block hi hF)⟩
theorem Turn.of_below (h : Below w.heap.size w w') : Turn F w w' := ⟨h.os, h.tape, h.output, h.size, fun k hk _ => h.block k hk⟩
theorem Turn.of_grown {row : Option Nat} (h : w.grownBy w' row) (hr : ∀ k, row = some k → F k) : Turn F w w' :=
  ⟨h.os, h.tape, h.output, h.size, fun k hk hF => h.block k hk (fun e => hF (hr k e.symm))⟩
theorem Turn.below {B : Nat} (h : Turn F w w') (hB : B ≤ w.heap.size) (hF : ∀ k, k < B → ¬ F k) : Below B w w' :=
  ⟨h.1, h.2.1, h.2.2.1, h.size, fun k hk => h.block (Nat.lt_of_lt_of_le hk hB) (hF k hk)⟩
theorem Turn.mono (h : Turn F w w') (hF : ∀ k, k < w.heap.size → F k → G k) : Turn G w w' :=
  ⟨h.1, h.2.1, h.2.2.1, h.size, fun k hk hG => h.block hk (fun hf => hG (hF k hk hf))⟩
theorem Turn.alloc (F : Nat → Prop) (w : World) (o : Obj) : Turn F w (w.alloc o) := Turn.of_grown (World.grownBy_alloc w o none) (by simp)
theorem Turn.drewN (F : Nat → Prop) (w : World) (n : Nat) : Turn F w (w.drewN n) := ⟨rfl, rfl, rfl, Nat.le_refl _, fun _ _ _ => rfl⟩
theorem Turn.lt (h : Turn F w w') {k : Nat} (hk : k < w.heap.size) : k < w'.heap.size := Nat.lt_of_lt_of_le hk h.size
end

theorem Sl.keepB {w w' : World} {B k : Nat} {v : Value} {xs : List Value} (h : Sl w B k v xs) (hk : ∀ g, v.ownBlock = some g → g < B → w'.heap[g]? = w.heap[g]?) : Sl w' B k v xs := by
  obtain ⟨A, n, c, hv, hl, hn, hc, hx⟩ := h
  refine ⟨A, n, c, hv, hl, hn, hc, fun h0 => ?_⟩
  obtain ⟨b, off, hA, hb, hcell⟩ := hx h0
  refine ⟨b, off, hA, hb, fun j u hu => ?_⟩
  rw [← hcell j u hu]
  have h1 := hk b (by subst hv hA; rfl) hb
  simp only [World.cell?, h1]

/-- v reads as the cells xs, and leads to blocks of F alone. -/
def SlF (w : World) (F : Nat → Prop) (k : Nat) (v : Value) (xs : List Value) : Prop := Sl w w.heap.size k v xs ∧ ∀ g, v.ownBlock = some g → F g
section
variable {F G : Nat → Prop} {w w' : World} {k : Nat} {v : Value} {xs : List Value}
theorem SlF.turn (h : SlF w F k v xs) (t : Turn G w w') (hd : ∀ g, F g → ¬ G g) : SlF w' F k v xs :=
  ⟨(h.1.keepB fun g hg hl => t.block hl (hd g (h.2 g hg))).more t.size, h.2⟩
theorem SlF.mono (h : SlF w F k v xs) (hF : ∀ g, F g → G g) : SlF w G k v xs := ⟨h.1, fun g hg => hF g (h.2 g hg)⟩
theorem SlF.of_own {base n : Nat} {e : TypeId} (h : w.ownsRow base e k v n xs) (hF : ∀ g, v.ownBlock = some g → F g) : SlF w F k v xs := ⟨Sl.of_own h, hF⟩
end
theorem own_turn {G : Nat → Prop} {w w' : World} {base : Nat} {e : TypeId} {k : Nat} {v : Value} {n : Nat} {xs : List Value} (h : w.ownsRow base e k v n xs) (t : Turn G w w') (hd : ∀ g, v.ownBlock = some g → ¬ G g) : w'.ownsRow base e k v n xs := by
  refine ⟨h.1, ?_⟩
  rcases h.2 with h2 | ⟨g, cap, cur, hv, hg, hb, r⟩
  · exact .inl h2
  · refine .inr ⟨g, cap, cur, hv, hg, ?_, r⟩
    rw [t.block (Array.getElem?_eq_some_iff.1 hb).1 (hd g (by subst hv; rfl))]; exact hb
theorem map_turn {H : Type} {P : Program} {k : TypeId} {R : Value → Option (DataW H × List MemPlace)} {G : Nat → Prop} {w w' : World} {b n : Nat} {D : DataW H} (h : w.ownsMap P k R b n D) (t : Turn G w w') (hd : ¬ G b) : w'.ownsMap P k R b n D := by
  have hlt := h.lt
  obtain ⟨es, clock, hb, r⟩ := h
  exact ⟨es, clock, (t.block hlt hd).trans hb, r⟩
theorem block_turn {G : Nat → Prop} {w w' : World} {b : Nat} {o : Obj} (h : w.heap[b]? = some o) (t : Turn G w w') (hd : ¬ G b) : w'.heap[b]? = some o :=
  (t.block (Array.getElem?_eq_some_iff.1 h).1 hd).trans h
theorem block_lt {w : World} {b : Nat} {o : Obj} (h : w.heap[b]? = some o) : b < w.heap.size := (Array.getElem?_eq_some_iff.1 h).1
theorem own_form {w : World} {base : Nat} {e : TypeId} {k : Nat} {v : Value} {n : Nat} {xs : List Value} (h : w.ownsRow base e k v n xs) (h0 : 0 < n) :
    ∃ g c, v = .slice (some ⟨g, 0, none⟩) n c ∧ base ≤ g ∧ g < w.heap.size ∧ n ≤ c ∧ c ≤ maxLen := by
  rcases h.2 with ⟨_, h0⟩ | ⟨g, cap, cur, hv, hb, hg, hc, hm, _⟩
  · omega
  · exact ⟨g, cap, hv, hb, block_lt hg, hc, hm⟩

/-- Texts, as cells. -/
def svs (l : List (List UInt8)) : List Value := l.map sv
theorem svs_length (l : List (List UInt8)) : (svs l).length = l.length := by simp [svs]
theorem svs_append (a b : List (List UInt8)) : svs (a ++ b) = svs a ++ svs b := by simp [svs]
theorem svs_one (l : List (List UInt8)) : ∀ u ∈ svs l, u.oneCell' = true := by
  intro u hu
  obtain ⟨b, _, rfl⟩ := List.mem_map.1 hu
  rfl
theorem svs_get (l : List (List UInt8)) (i : Nat) (h : i < l.length) : (svs l)[i]? = some (sv l[i]) := by simp [svs, h]
/-- The slice value v reads as these texts. -/
def Ss (w : World) (B : Nat) (v : Value) (l : List (List UInt8)) : Prop := Sl w B 1 v (svs l)
theorem Ss.open_ {w : World} {B : Nat} {v : Value} {l : List (List UInt8)} (h : Ss w B v l) :
    ∃ (A : Option Addr) (c : Nat), v = .slice A l.length c ∧ l.length ≤ c ∧ c ≤ maxLen ∧
      (0 < l.length → ∃ b off, A = some ⟨b, off, none⟩ ∧ b < B ∧ ∀ (j : Nat) (hj : j < l.length), w.cell? ⟨b, off + j, none⟩ = some (sv l[j])) := by
  obtain ⟨A, n, c, rfl, hl, hn, hc, hx⟩ := h
  obtain rfl : l.length = n := by rw [← svs_length l, hl]; omega
  refine ⟨A, c, rfl, hn, hc, fun h0 => ?_⟩
  obtain ⟨b, off, hA, hb, hcell⟩ := hx h0
  exact ⟨b, off, hA, hb, fun j hj => hcell j _ (svs_get l j hj)⟩
theorem Ss.below {w w' : World} {B : Nat} {v : Value} {l : List (List UInt8)} (h : Ss w B v l) (hb : Below B w w') : Ss w' B v l := Sl.below h hb
theorem Ss.alloc {w : World} {B : Nat} {v : Value} {l : List (List UInt8)} (h : Ss w B v l) (hB : B ≤ w.heap.size) (o : Obj) : Ss (w.alloc o) B v l := Sl.alloc h hB o
theorem Ss.more {w : World} {B B' : Nat} {v : Value} {l : List (List UInt8)} (h : Ss w B v l) (hB : B ≤ B') : Ss w B' v l := Sl.more h hB
/-- v is nil or a row of the call's own that holds just these texts. -/
def OwnS (w : World) (base : Nat) (e : TypeId) (v : Value) (l : List (List UInt8)) : Prop := ∃ n, w.ownsRow base e 1 v n (svs l)
section
variable {w w' : World} {base : Nat} {e : TypeId} {v : Value} {l : List (List UInt8)}
theorem OwnS.nil (w : World) (base : Nat) (e : TypeId) : OwnS w base e (.slice none 0 0) [] := ⟨0, World.ownsRow_nil _ _ _ _⟩
theorem OwnS.ss (h : OwnS w base e v l) : Ss w w.heap.size v l := by obtain ⟨n, h⟩ := h; exact Sl.of_own h
theorem OwnS.below (h : OwnS w base e v l) (hb : Below w.heap.size w w') : OwnS w' base e v l := by obtain ⟨n, h⟩ := h; exact ⟨n, own_below h hb⟩
theorem OwnS.alloc (h : OwnS w base e v l) (o : Obj) : OwnS (w.alloc o) base e v l := by obtain ⟨n, h⟩ := h; exact ⟨n, h.alloc o⟩
theorem OwnS.drewN (h : OwnS w base e v l) (k : Nat) : OwnS (w.drewN k) base e v l := h
theorem OwnS.lt (h : OwnS w base e v l) : ∀ k, v.ownBlock = some k → base ≤ k ∧ k < w.heap.size := by obtain ⟨n, h⟩ := h; exact h.lt
theorem OwnS.turn {G : Nat → Prop} (h : OwnS w base e v l) (t : Turn G w w') (hd : ∀ g, v.ownBlock = some g → ¬ G g) : OwnS w' base e v l := by obtain ⟨n, h⟩ := h; exact ⟨n, own_turn h t hd⟩
theorem OwnS.row (h : OwnS w base e v l) : w.ownsRow base e 1 v l.length (svs l) := by
  obtain ⟨n, h⟩ := h
  have hn : n = l.length := by have := h.1; rw [svs_length] at this; omega
  subst hn; exact h
end
/-- A fresh block of one text, as 'append(l, x)' lays it. -/
theorem ss_new (w : World) (x : List UInt8) (t : TypeId) : Ss (w.alloc (.cells #[sv x] t)) (w.heap.size + 1) (.slice (some ⟨w.heap.size, 0, none⟩) 1 1) [x] :=
  sl_new w #[sv x] t 1 1 rfl (by decide)

theorem turn_set (w : World) (b i : Nat) (v : Value) : Turn (fun k => k = b) w (w.setCell ⟨b, i, none⟩ v) :=
  ⟨rfl, rfl, rfl, by simp, fun k _ hF => heap_setCell_other w _ k v hF⟩
end Go.Proofs.YtmbppnbekkbibaaGreatDoor

/- Opening arguments: what a slice of texts that came in reads as. -/
set_option linter.unusedVariables false
namespace Go.Proofs.YtmbppnbekkbibaaGreatDoor
open Go.ChangeShapes Go.WideShapes Go.ChangeAt Go.RowKit
section
variable {H : Type} {enc : TypeId × Value → H} {P : Program} {W : World}
end
end Go.Proofs.YtmbppnbekkbibaaGreatDoor

/- Opening arguments: what a slice of bytes that came in reads as. -/
set_option linter.unusedVariables false
namespace Go.Proofs.YtmbppnbekkbibaaGreatDoor
open Go.ChangeShapes Go.WideShapes Go.ChangeAt Go.RowKit
section
variable {H : Type} {enc : TypeId × Value → H} {P : Program} {W : World}
end
end Go.Proofs.YtmbppnbekkbibaaGreatDoor

/- Steps of regions that draw their order. -/
set_option linter.unusedVariables false
namespace Go.Proofs.YtmbppnbekkbibaaGreatDoor
open Go.RowKit

/-- append onto a row of the call's own, as one step. -/
theorem step_app {P : Program} {ops : Array Oper} {o : Oper} {a : Act} {w : World} {K : Act → World → Prop} {Q : Exit → Act → World → Prop} {E : Prop} (hgd : o.guard = none) (s x : Operand) (t : TypeId)
    (ho : o.op = .call { callee := .builtin .append, args := #[s, x], argTypes := #[t, t] })
    (base : Nat) {e : TypeId} {z : Value} {size bytes : Nat} (hE : ElemIs P t e z size bytes) (v y : Value) (hs : a.eval s = v) (hx : a.eval x = y)
    {n : Nat} {xs : List Value} (hown : w.ownsRow base e size v n xs) {B : Nat} {news : List Value} (hy : Sl w B size y news) (h1 : ∀ u ∈ news, u.oneCell' = true)
    (h63 : n * size + news.length ≤ maxLen) (hbytes : (n * size + news.length) * bytes ≤ 140737488355328) (hbase : base ≤ w.heap.size)
    (h : ∀ v' w' n', w'.ownsRow base e size v' n' (xs ++ news) → w.grownBy w' v.ownBlock → (v'.ownBlock = v.ownBlock ∨ v'.ownBlock = some w.heap.size) → K (a.put o.dst v') w') :
    if Region.wanted o (yielded ops a.tmps) = true then Oper.wp P o a w K Q else E := by
  have hw : Region.wanted o (yielded ops a.tmps) = true := by simp [Region.wanted, hgd]
  rw [if_pos hw]
  obtain ⟨v', w', n', hrun, h2, h3, h4⟩ := run_app (P := P) (ty := o.type) w base hE hown hy h1 h63 hbytes hbase
  unfold Oper.wp execOp
  simp only [ho, resolve, invoke, builtin, Sem.run_bind, Sem.run_pure, Result.andThen_ok, List.map_toArray, List.map_cons, List.map_nil, hs, hx, hrun]
  exact h v' w' n' h2 h3 h4
end Go.Proofs.YtmbppnbekkbibaaGreatDoor
end
section
/- Texts that belong together: TA, TB, TC. -/
/- Trees in plain Lean: types and expressions, which of them may be printed, and how. -/
set_option linter.unusedVariables false
namespace Go.Proofs.YtmbppnbekkbibaaGreatDoor

/-- A type. -/
inductive TyD where
  | mk (kind : Int) (name : Bt) (names : List Bt) (kids : List TyD) : TyD
/-- An expression. -/
inductive NoD where
  | mk (kind : Int) (text : Bt) (n line col : Int) (types : List TyD) (names : List Bt) (kids : List NoD) : NoD
def TyD.kind : TyD → Int | .mk k _ _ _ => k
def TyD.name : TyD → Bt | .mk _ n _ _ => n
def TyD.names : TyD → List Bt | .mk _ _ n _ => n
def TyD.kids : TyD → List TyD | .mk _ _ _ k => k

/-- Is a type's own part as its kind has it? -/
def kindT (k : Int) (nm : Bt) (ns ks : Nat) : Bool :=
  if k = 8 then ns + ks == 0 && nameL nm
  else if nm ≠ [] ∨ k < 0 ∨ 7 < k then false
  else if k = 5 then ns == ks
  else if k = 6 then ns == 0 && ks == 2
  else if k = 7 then ns == 0 && decide (2 ≤ ks)
  else ns + ks == 0
/-- Is a type a written one, of at most so many within one another? -/
def writtenB : Nat → TyD → Bool
  | 0, _ => false
  | m + 1, .mk k nm ns ks => ns.all nameL && ks.all (writtenB m) && kindT k nm ns.length ks.length
/-- Texts put together with one between. -/
def joinS (sep : Bt) : List Bt → Bt
  | [] => []
  | [x] => x
  | x :: y :: l => x ++ (sep ++ joinS sep (y :: l))
/-- In brackets, if its kind is one of these. -/
def innerS (kinds : List Int) (k : Int) (s : Bt) : Bt := if kinds.contains k then [40] ++ (s ++ [41]) else s
/-- A field: its name and what it is. -/
def fieldS (n s : Bt) : Bt := n ++ ([58, 32] ++ s)
mutual
/-- A written type as text. -/
def showT : TyD → Bt
  | .mk k nm ns ks =>
    if k = 0 then [97, 110, 121]
    else if k = 1 then [110, 117, 108, 108]
    else if k = 2 then [98, 111, 111, 108]
    else if k = 3 then [105, 110, 116]
    else if k = 4 then [115, 116, 114]
    else if k = 5 then [123] ++ (joinS [44, 32] (List.zipWith fieldS ns (showTs ks)) ++ [125])
    else if k = 6 then innerS [6] ((ks.map TyD.kind).getD 0 0) ((showTs ks).getD 0 []) ++ ([32, 45, 62, 32] ++ (showTs ks).getD 1 [])
    else if k = 7 then joinS [32, 124, 32] (List.zipWith (innerS [6, 7]) (ks.map TyD.kind) (showTs ks))
    else nm
def showTs : List TyD → List Bt
  | [] => []
  | t :: l => showT t :: showTs l
end
theorem showTs_map : ∀ l : List TyD, showTs l = l.map showT
  | [] => by simp [showTs]
  | t :: l => by simp [showTs, showTs_map l]
/-- A type behind a colon, if there is one. -/
def noteS (l : List TyD) (i : Nat) : Bt := match l[i]? with | some t => [58, 32] ++ showT t | none => []
/-- What a kind of node has: a name as text, the least and the most types, kids (none: as many as names), the most of N. -/
structure HasD where
  name : Bool
  low : Nat
  types : Nat
  kids : Int
  most : Int
def hasD (k : Int) : HasD :=
  if k = 0 then ⟨false, 0, 0, 0, 9223372036854775807⟩
  else if k = 2 then ⟨false, 0, 0, 0, 1⟩
  else if k = 4 then ⟨true, 0, 0, 0, 0⟩
  else if k = 5 then ⟨true, 0, 1, 2, 0⟩
  else if k = 6 then ⟨true, 1, 2, 1, 0⟩
  else if k = 7 then ⟨false, 0, 0, 2, 0⟩
  else if k = 8 then ⟨false, 0, 0, -1, 0⟩
  else if k = 9 then ⟨true, 0, 0, 1, 0⟩
  else if k = 10 then ⟨true, 0, 0, 2, 0⟩
  else if k = 11 then ⟨false, 0, 0, 3, 0⟩
  else if k = 12 then ⟨false, 0, 0, 1, 5⟩
  else if k = 13 then ⟨false, 1, 1, 1, 0⟩
  else if k = 14 then ⟨false, 0, 0, 2, 0⟩
  else if k = 15 ∨ k = 16 ∨ k = 17 then ⟨false, 0, 0, 1, 0⟩
  else if k = 19 then ⟨true, 1, 1048576, 0, 0⟩
  else ⟨false, 0, 0, 0, 0⟩
def opsL : List Bt := [[111, 114], [97, 110, 100], [60], [60, 61], [61, 61], [43, 43], [43], [45], [94], [42], [47], [37], [38], [60, 60], [62, 62]]
def strB (s : Bt) : Bool := decide (s.length ≤ 256) && s.all (fun c => !(decide (c < 32) && c != 9 && c != 10))
def textB (k : Int) (s : Bt) (named : Bool) : Bool :=
  if named then nameL s else if k = 1 then strB s else if k = 14 then opsL.contains s else s == []
/-- Is a node's own part as its kind has it? -/
def ownN (k : Int) (text : Bt) (n : Int) (types names kids : Nat) : Bool :=
  decide (0 ≤ n ∧ n ≤ (hasD k).most) && textB k text (hasD k).name && decide ((hasD k).low ≤ types ∧ types ≤ (hasD k).types) &&
    (if (hasD k).kids < 0 then kids == names else names == 0 && (kids : Int) == (hasD k).kids)
def nodeB : Nat → NoD → Bool
  | 0, _ => false
  | m + 1, .mk k text n _ _ types names kids =>
    decide (0 ≤ k ∧ k < 20) && ownN k text n types.length names.length kids.length && names.all nameL && types.all (writtenB 16) && kids.all (nodeB m)
def tagsL : List Bt := [[110, 117, 108, 108], [98, 111, 111, 108], [105, 110, 116], [115, 116, 114], [114, 101, 99, 111, 114, 100], [102, 117, 110, 99, 116, 105, 111, 110]]
def cat (l : List Bt) : Bt := l.flatMap id
/-- An expression without others in it as text. -/
def simpleS (k : Int) (text : Bt) (n : Int) (types : List TyD) : Bt :=
  if k = 0 then Lib.itoa n
  else if k = 1 then quoteW text
  else if k = 2 then (if n = 0 then [102, 97, 108, 115, 101] else [116, 114, 117, 101])
  else if k = 3 then [110, 117, 108, 108]
  else if k = 18 then [114, 101, 97, 100, 40, 41]
  else if k = 19 then cat [text, [91], joinS [44, 32] (types.map showT), [93]]
  else text
/-- A node as text: of its own part and what is within. -/
def nodeS (k : Int) (text : Bt) (n : Int) (types : List TyD) (names : List Bt) (s : List Bt) : Bt :=
  if k = 7 then cat [s.getD 0 [], [40], s.getD 1 [], [41]]
  else if k = 9 then cat [s.getD 0 [], [46], text]
  else if k = 10 then cat [[123], s.getD 0 [], [32, 119, 105, 116, 104, 32], text, [58, 32], s.getD 1 [], [125]]
  else if k = 8 then cat [[123], joinS [44, 32] (List.zipWith fieldS names s), [125]]
  else if k = 17 then cat [[112, 114, 105, 110, 116, 40], s.getD 0 [], [41]]
  else if k = 5 then cat [[40], [108, 101, 116, 32], text, noteS types 0, [32, 61, 32], s.getD 0 [], [59, 32], s.getD 1 [], [41]]
  else if k = 6 then cat [[40], [102, 110, 32, 40], text, noteS types 0, [41], noteS types 1, [32, 61, 62, 32], s.getD 0 [], [41]]
  else if k = 11 then cat [[40], [105, 102, 32], s.getD 0 [], [32, 116, 104, 101, 110, 32], s.getD 1 [], [32, 101, 108, 115, 101, 32], s.getD 2 [], [41]]
  else if k = 12 then cat [[40], s.getD 0 [], [32, 105, 115, 32], tagsL.getD n.toNat [], [41]]
  else if k = 13 then cat [[40], s.getD 0 [], [32, 97, 115, 32], (types.map showT).getD 0 [], [41]]
  else if k = 14 then cat [[40], s.getD 0 [], [32], text, [32], s.getD 1 [], [41]]
  else if k = 15 then cat [[40], [110, 111, 116, 32], s.getD 0 [], [41]]
  else if k = 16 then cat [[40], [45], s.getD 0 [], [41]]
  else simpleS k text n types
mutual
def exprS : NoD → Bt
  | .mk k text n _ _ types names kids => nodeS k text n types names (exprSs kids)
def exprSs : List NoD → List Bt
  | [] => []
  | x :: l => exprS x :: exprSs l
end
theorem exprSs_map : ∀ l : List NoD, exprSs l = l.map exprS
  | [] => by simp [exprSs]
  | t :: l => by simp [exprSs, exprSs_map l]
def exprT (x : NoD) : Bt := if nodeB 25 x then exprS x else []
end Go.Proofs.YtmbppnbekkbibaaGreatDoor

/- What types and nodes read as in memory. -/
set_option linter.unusedVariables false
namespace Go.Proofs.YtmbppnbekkbibaaGreatDoor
open Go.RowKit

theorem t_sl_shape {w : World} {B k : Nat} {v : Value} {xs : List Value} (h : Sl w B k v xs) : ∃ A n c, v = .slice A n c := by
  obtain ⟨A, n, c, hv, _⟩ := h
  exact ⟨A, n, c, hv⟩
theorem t_sl_len {w : World} {B k : Nat} {A : Option Addr} {n c : Nat} {xs : List Value} (h : Sl w B k (.slice A n c) xs) : xs.length = n * k ∧ n ≤ c ∧ c ≤ 2 ^ 63 - 1 := by
  obtain ⟨A', n', c', hv, hl, hn, hc, _⟩ := h
  injection hv with e1 e2 e3
  subst e1 e2 e3
  unfold maxLen at hc
  exact ⟨hl, hn, hc⟩
theorem t_sl_exact {w : World} {B k m : Nat} {v : Value} {xs : List Value} (h : Sl w B k v xs) (hk : 0 < k) (hm : xs.length = m * k) : ∃ A c, v = .slice A m c := by
  obtain ⟨A, n, c, rfl⟩ := t_sl_shape h
  have := (t_sl_len h).1
  rw [hm] at this
  obtain rfl : m = n := Nat.eq_of_mul_eq_mul_right hk this
  exact ⟨A, c, rfl⟩
/-- An element's cells. -/
theorem t_sl_in {w : World} {B k : Nat} {xs : List Value} {A : Option Addr} {n c : Nat} (h : Sl w B k (.slice A n c) xs) {i : Nat} (hi : i < n) (hk : 0 < k) :
    ∃ b off, A = some ⟨b, off, none⟩ ∧ b < B ∧ ∀ (j : Nat) u, xs[i * k + j]? = some u → w.cell? ⟨b, off + (i * k + j), none⟩ = some u := by
  obtain ⟨A', n', c', hv', hl, hn, hc, hx⟩ := h
  injection hv' with e1 e2 e3
  subst e1 e2 e3
  obtain ⟨b, off, hA, hbb, hcell⟩ := hx (by omega)
  exact ⟨b, off, hA, hbb, fun j u hu => hcell _ u hu⟩
mutual
/-- Four cells read as a type. -/
inductive TyR (w : World) (B : Nat) : List Value → TyD → Prop
  | mk {k : Int} {nm : Bt} {vn vk : Value} {ns : List Bt} {ks : List TyD} {xk : List Value} : Ss w B vn ns → Sl w B 4 vk xk → TysR w B xk ks → TyR w B [.int .i64 k, sv nm, vn, vk] (.mk k nm ns ks)
inductive TysR (w : World) (B : Nat) : List Value → List TyD → Prop
  | nil : TysR w B [] []
  | cons {x y : List Value} {c : TyD} {l : List TyD} : TyR w B x c → TysR w B y l → TysR w B (x ++ y) (c :: l)
end
mutual
/-- Eight cells read as a node. -/
inductive NoR (w : World) (B : Nat) : List Value → NoD → Prop
  | mk {k n line col : Int} {text : Bt} {vt vn vk : Value} {ts : List TyD} {xt : List Value} {ns : List Bt} {ks : List NoD} {xk : List Value} : Sl w B 4 vt xt → TysR w B xt ts → Ss w B vn ns → Sl w B 8 vk xk → NosR w B xk ks →
      NoR w B [.int .i64 k, sv text, .int .i64 n, .int .i64 line, .int .i64 col, vt, vn, vk] (.mk k text n line col ts ns ks)
inductive NosR (w : World) (B : Nat) : List Value → List NoD → Prop
  | nil : NosR w B [] []
  | cons {x y : List Value} {c : NoD} {l : List NoD} : NoR w B x c → NosR w B y l → NosR w B (x ++ y) (c :: l)
end
mutual
theorem TyR.keep {w w' : World} {B : Nat} {x : List Value} {c : TyD} (h : TyR w B x c) (hb : Below B w w') : TyR w' B x c :=
  match h with
  | .mk h1 h2 h3 => .mk (Sl.below h1 hb) (h2.below hb) (h3.keep hb)
theorem TysR.keep {w w' : World} {B : Nat} {x : List Value} {l : List TyD} (h : TysR w B x l) (hb : Below B w w') : TysR w' B x l :=
  match h with
  | .nil => .nil
  | .cons h1 h2 => .cons (h1.keep hb) (h2.keep hb)
end
mutual
theorem TyR.more {w : World} {B B' : Nat} {x : List Value} {c : TyD} (h : TyR w B x c) (hb : B ≤ B') : TyR w B' x c :=
  match h with
  | .mk h1 h2 h3 => .mk (Sl.more h1 hb) (h2.more hb) (h3.more hb)
theorem TysR.more {w : World} {B B' : Nat} {x : List Value} {l : List TyD} (h : TysR w B x l) (hb : B ≤ B') : TysR w B' x l :=
  match h with
  | .nil => .nil
  | .cons h1 h2 => .cons (h1.more hb) (h2.more hb)
end
theorem TyR.far {W w' : World} {B : Nat} {x : List Value} {c : TyD} (h : TyR W B x c) (hB : B ≤ W.heap.size) (hb : Below W.heap.size W w') : TyR w' w'.heap.size x c :=
  (h.keep (hb.mono hB)).more (Nat.le_trans hB hb.size)
theorem TysR.far {W w' : World} {B : Nat} {x : List Value} {c : List TyD} (h : TysR W B x c) (hB : B ≤ W.heap.size) (hb : Below W.heap.size W w') : TysR w' w'.heap.size x c :=
  (h.keep (hb.mono hB)).more (Nat.le_trans hB hb.size)
theorem TyR.len {w : World} {B : Nat} {x : List Value} {c : TyD} (h : TyR w B x c) : x.length = 4 := by
  cases h; rfl
theorem TysR.length {w : World} {B : Nat} : ∀ {x : List Value} {l : List TyD}, TysR w B x l → x.length = l.length * 4
  | _, _, .nil => rfl
  | _, _, .cons h1 h2 => by
    have := h1.len
    have := TysR.length h2
    rw [List.length_append, List.length_cons]; omega
theorem TysR.at {w : World} {B : Nat} : ∀ {x : List Value} {l : List TyD}, TysR w B x l → ∀ (i : Nat) (hi : i < l.length), TyR w B ((x.drop (i * 4)).take 4) l[i]
  | _, _, .nil, i, hi => by simp at hi
  | _, _, .cons (x := x) (y := y) h1 h2, i, hi => by
    have h5 := h1.len
    rcases i with _ | i
    · rw [Nat.zero_mul, List.drop_zero, ← h5, List.take_left]; exact h1
    · have : (x ++ y).drop ((i + 1) * 4) = y.drop (i * 4) := by
        rw [show (i + 1) * 4 = x.length + i * 4 by omega, ← List.drop_drop, List.drop_left]
      rw [this]
      exact TysR.at h2 i (by simpa using hi)
mutual
theorem NoR.keep {w w' : World} {B : Nat} {x : List Value} {c : NoD} (h : NoR w B x c) (hb : Below B w w') : NoR w' B x c :=
  match h with
  | .mk h1 h2 h3 h4 h5 => .mk (h1.below hb) (h2.keep hb) (Sl.below h3 hb) (h4.below hb) (h5.keep hb)
theorem NosR.keep {w w' : World} {B : Nat} {x : List Value} {l : List NoD} (h : NosR w B x l) (hb : Below B w w') : NosR w' B x l :=
  match h with
  | .nil => .nil
  | .cons h1 h2 => .cons (h1.keep hb) (h2.keep hb)
end
mutual
theorem NoR.more {w : World} {B B' : Nat} {x : List Value} {c : NoD} (h : NoR w B x c) (hb : B ≤ B') : NoR w B' x c :=
  match h with
  | .mk h1 h2 h3 h4 h5 => .mk (h1.more hb) (h2.more hb) (Sl.more h3 hb) (h4.more hb) (h5.more hb)
theorem NosR.more {w : World} {B B' : Nat} {x : List Value} {l : List NoD} (h : NosR w B x l) (hb : B ≤ B') : NosR w B' x l :=
  match h with
  | .nil => .nil
  | .cons h1 h2 => .cons (h1.more hb) (h2.more hb)
end
theorem NoR.far {W w' : World} {B : Nat} {x : List Value} {c : NoD} (h : NoR W B x c) (hB : B ≤ W.heap.size) (hb : Below W.heap.size W w') : NoR w' w'.heap.size x c :=
  (h.keep (hb.mono hB)).more (Nat.le_trans hB hb.size)
theorem NosR.far {W w' : World} {B : Nat} {x : List Value} {c : List NoD} (h : NosR W B x c) (hB : B ≤ W.heap.size) (hb : Below W.heap.size W w') : NosR w' w'.heap.size x c :=
  (h.keep (hb.mono hB)).more (Nat.le_trans hB hb.size)
theorem NoR.len {w : World} {B : Nat} {x : List Value} {c : NoD} (h : NoR w B x c) : x.length = 8 := by
  cases h; rfl
theorem NosR.length {w : World} {B : Nat} : ∀ {x : List Value} {l : List NoD}, NosR w B x l → x.length = l.length * 8
  | _, _, .nil => rfl
  | _, _, .cons h1 h2 => by
    have := h1.len
    have := NosR.length h2
    rw [List.length_append, List.length_cons]; omega
theorem NosR.at {w : World} {B : Nat} : ∀ {x : List Value} {l : List NoD}, NosR w B x l → ∀ (i : Nat) (hi : i < l.length), NoR w B ((x.drop (i * 8)).take 8) l[i]
  | _, _, .nil, i, hi => by simp at hi
  | _, _, .cons (x := x) (y := y) h1 h2, i, hi => by
    have h5 := h1.len
    rcases i with _ | i
    · rw [Nat.zero_mul, List.drop_zero, ← h5, List.take_left]; exact h1
    · have : (x ++ y).drop ((i + 1) * 8) = y.drop (i * 8) := by
        rw [show (i + 1) * 8 = x.length + i * 8 by omega, ← List.drop_drop, List.drop_left]
      rw [this]
      exact NosR.at h2 i (by simpa using hi)
theorem TyR.parts {w : World} {B : Nat} {x : List Value} {k : Int} {nm : Bt} {ns : List Bt} {ks : List TyD} (h : TyR w B x (.mk k nm ns ks)) :
    ∃ A1 c1 A2 c2 xk, x = [.int .i64 k, sv nm, .slice A1 ns.length c1, .slice A2 ks.length c2] ∧ Ss w B (.slice A1 ns.length c1) ns ∧ Sl w B 4 (.slice A2 ks.length c2) xk ∧ TysR w B xk ks := by
  cases h with
  | mk h1 h2 h3 =>
    obtain ⟨A1, c1, rfl⟩ := t_sl_exact h1 (by omega) (m := ns.length) (by rw [svs_length]; omega)
    obtain ⟨A2, c2, rfl⟩ := t_sl_exact h2 (by omega) (m := ks.length) h3.length
    exact ⟨A1, c1, A2, c2, _, rfl, h1, h2, h3⟩
theorem NoR.parts {w : World} {B : Nat} {x : List Value} {k n line col : Int} {text : Bt} {ts : List TyD} {ns : List Bt} {ks : List NoD} (h : NoR w B x (.mk k text n line col ts ns ks)) :
    ∃ A1 c1 A2 c2 A3 c3 xt xk, x = [.int .i64 k, sv text, .int .i64 n, .int .i64 line, .int .i64 col, .slice A1 ts.length c1, .slice A2 ns.length c2, .slice A3 ks.length c3] ∧ Sl w B 4 (.slice A1 ts.length c1) xt ∧ TysR w B xt ts ∧ Ss w B (.slice A2 ns.length c2) ns ∧ Sl w B 8 (.slice A3 ks.length c3) xk ∧ NosR w B xk ks := by
  cases h with
  | mk h1 h1r h2 h3 h3r =>
    obtain ⟨A1, c1, rfl⟩ := t_sl_exact h1 (by omega) (m := ts.length) h1r.length
    obtain ⟨A2, c2, rfl⟩ := t_sl_exact h2 (by omega) (m := ns.length) (by rw [svs_length]; omega)
    obtain ⟨A3, c3, rfl⟩ := t_sl_exact h3 (by omega) (m := ks.length) h3r.length
    exact ⟨A1, c1, A2, c2, A3, c3, _, _, rfl, h1, h1r, h2, h3, h3r⟩
theorem TyR.shape {w : World} {B : Nat} {x : List Value} {c : TyD} (h : TyR w B x c) : ∃ k s A1 n1 c1 A2 n2 c2, x = [.int .i64 k, .string s, .slice A1 n1 c1, .slice A2 n2 c2] := by
  cases h with
  | mk h1 h2 _ =>
    obtain ⟨A1, n1, c1, rfl⟩ := t_sl_shape h1
    obtain ⟨A2, n2, c2, rfl⟩ := t_sl_shape h2
    exact ⟨_, _, _, _, _, _, _, _, rfl⟩
theorem NoR.shape {w : World} {B : Nat} {x : List Value} {c : NoD} (h : NoR w B x c) : ∃ k s n l o A1 n1 c1 A2 n2 c2 A3 n3 c3, x = [.int .i64 k, .string s, .int .i64 n, .int .i64 l, .int .i64 o, .slice A1 n1 c1, .slice A2 n2 c2, .slice A3 n3 c3] := by
  cases h with
  | mk h1 _ h2 h3 _ =>
    obtain ⟨A1, n1, c1, rfl⟩ := t_sl_shape h1
    obtain ⟨A2, n2, c2, rfl⟩ := t_sl_shape h2
    obtain ⟨A3, n3, c3, rfl⟩ := t_sl_shape h3
    exact ⟨_, _, _, _, _, _, _, _, _, _, _, _, _, _, rfl⟩
theorem t_part {xs ys : List Value} {n m : Nat} (h : (xs.drop n).take m = ys) {j : Nat} (hj : j < m) : xs[n + j]? = ys[j]? := by
  rw [← h, List.getElem?_take, if_pos hj, List.getElem?_drop]
theorem t_keep {W w' : World} {b i : Nat} {v : Value} (h : Below W.heap.size W w') (d : W.cell? ⟨b, i, none⟩ = some v) (hb : b < W.heap.size) : w'.cell? ⟨b, i, none⟩ = some v :=
  (h.cell (p := ⟨b, i, none⟩) hb).trans d
end Go.Proofs.YtmbppnbekkbibaaGreatDoor

/- Opening arguments: types and nodes that came in. -/
set_option linter.unusedVariables false
namespace Go.Proofs.YtmbppnbekkbibaaGreatDoor
open Go.ChangeShapes Go.WideShapes Go.ChangeAt Go.RowKit

/-- Cells, k of them an element, that read as a list. -/
inductive TRow {α : Type} (R : List Value → α → Prop) (k : Nat) : List Value → List α → Prop
  | nil : TRow R k [] []
  | cons {x y : List Value} {c : α} {l : List α} : x.length = k → R x c → TRow R k y l → TRow R k (x ++ y) (c :: l)
theorem TRow.len {α : Type} {R : List Value → α → Prop} {k : Nat} : ∀ {xs : List Value} {ys : List α}, TRow R k xs ys → xs.length = ys.length * k
  | _, _, .nil => by simp
  | _, _, .cons h1 h2 h3 => by rw [List.length_append, List.length_cons, h1, TRow.len h3, Nat.add_mul, Nat.one_mul, Nat.add_comm]
theorem TRow.all {α : Type} {R : List Value → α → Prop} {k : Nat} {S : α → Prop} (hS : ∀ z c, R z c → S c) : ∀ {xs : List Value} {ys : List α}, TRow R k xs ys → ∀ y ∈ ys, S y
  | _, _, .nil, y, hy => by cases hy
  | _, _, .cons h1 h2 h3, y, hy => by
    rcases List.mem_cons.1 hy with rfl | hy
    · exact hS _ _ h2
    · exact TRow.all hS h3 y hy
section
variable {H : Type} {enc : TypeId × Value → H} {P : Program} {W : World}
end
mutual
/-- Numbers and texts that are no longer than any. -/
def okT : TyD → Prop
  | .mk k nm ns ks => In64 k ∧ nm.length ≤ maxLen ∧ (∀ x ∈ ns, x.length ≤ maxLen) ∧ okTs ks
def okTs : List TyD → Prop
  | [] => True
  | t :: l => okT t ∧ okTs l
end
theorem okTs_mem : ∀ {l : List TyD}, okTs l ↔ ∀ x ∈ l, okT x
  | [] => by simp [okTs]
  | c :: l => by
    rw [okTs, okTs_mem (l := l)]
    simp
mutual
def okN : NoD → Prop
  | .mk k text n line col ts ns ks => In64 k ∧ text.length ≤ maxLen ∧ In64 n ∧ In64 line ∧ In64 col ∧ (∀ x ∈ ts, okT x) ∧ (∀ x ∈ ns, x.length ≤ maxLen) ∧ okNs ks
def okNs : List NoD → Prop
  | [] => True
  | t :: l => okN t ∧ okNs l
end
theorem okNs_mem : ∀ {l : List NoD}, okNs l ↔ ∀ x ∈ l, okN x
  | [] => by simp [okNs]
  | c :: l => by
    rw [okNs, okNs_mem (l := l)]
    simp
section
variable {H : Type} {enc : TypeId × Value → H} {W : World}
end
end Go.Proofs.YtmbppnbekkbibaaGreatDoor
end
section
/- Modules in plain Lean: which of them may be printed, how, and one without places. -/
set_option linter.unusedVariables false
namespace Go.Proofs.YtmbppnbekkbibaaGreatDoor

/-- An import. -/
structure ImD where
  from_ : Bt
  names : List Bt
  line : Int
  col : Int
/-- A variable for a type. -/
structure VaD where
  name : Bt
  bound : TyD
/-- A function. -/
structure DeD where
  name : Bt
  exp : Bool
  vars : List VaD
  param : Bt
  types : List TyD
  body : NoD
  line : Int
  col : Int
/-- A module. -/
structure MoD where
  imps : List ImD
  decls : List DeD

end Go.Proofs.YtmbppnbekkbibaaGreatDoor
end
section
/- The parser in plain Lean: what a row of tokens says, or the fault. -/
set_option linter.unusedVariables false
namespace Go.Proofs.YtmbppnbekkbibaaGreatDoor

abbrev DgD := Nat × Nat × Int
/-- What reading gives: a fault, or what was read and what is left. -/
inductive Pr (α : Type) where
  | bad (d : DgD) : Pr α
  | good (a : α) (r : List TokD) : Pr α
abbrev Ps (α : Type) := List TokD → Pr α
def retP {α : Type} (a : α) : Ps α := fun ts => .good a ts
def thenP {α β : Type} (p : Ps α) (f : α → Ps β) : Ps β := fun ts => match p ts with
  | .bad d => .bad d
  | .good a r => f a r
theorem thenP_good {α β : Type} {p : Ps α} {f : α → Ps β} {ts r : List TokD} {a : α} (h : p ts = .good a r) : thenP p f ts = f a r := by unfold thenP; rw [h]
theorem thenP_bad {α β : Type} {p : Ps α} {f : α → Ps β} {ts : List TokD} {d : DgD} (h : p ts = .bad d) : thenP p f ts = .bad d := by unfold thenP; rw [h]
def nextP (ts : List TokD) : TokD := ts.headD ⟨0, [], 0, 0⟩
def failP {α : Type} (e : Int) : Ps α := fun ts => .bad ((nextP ts).line, (nextP ts).col, e)
def isT (t : TokD) (s : Bt) : Bool := (t.kind == 2 || t.kind == 5) && t.text == s
/-- Which of some words and signs the next token is. -/
def takeP (l : List Bt) : Ps (Option Nat) := fun ts => match l.findIdx? (isT (nextP ts)) with
  | none => .good none ts
  | some i => .good (some i) (ts.drop 1)
def hasP (s : Bt) : Ps Bool := fun ts => if isT (nextP ts) s then .good true (ts.drop 1) else .good false ts
theorem has_yes {t : TokD} {s : Bt} (h : isT t s = true) (r : List TokD) : hasP s (t :: r) = .good true r := by
  unfold hasP; rw [if_pos (show isT (nextP (t :: r)) s = true from h)]; rfl
theorem has_no {t : TokD} {s : Bt} (h : isT t s = false) (r : List TokD) : hasP s (t :: r) = .good false (t :: r) := by
  unfold hasP; rw [if_neg (show ¬ isT (nextP (t :: r)) s = true from fun e => by rw [show isT (nextP (t :: r)) s = isT t s from rfl, h] at e; cases e)]
theorem take_yes {t : TokD} {l : List Bt} {i : Nat} (h : l.findIdx? (isT t) = some i) (r : List TokD) : takeP l (t :: r) = .good (some i) r := by
  unfold takeP; rw [show l.findIdx? (isT (nextP (t :: r))) = some i from h]; rfl
theorem take_no {t : TokD} {l : List Bt} (h : l.findIdx? (isT t) = none) (r : List TokD) : takeP l (t :: r) = .good none (t :: r) := by
  unfold takeP; rw [show l.findIdx? (isT (nextP (t :: r))) = none from h]
def wantP (s : Bt) : Ps Unit := thenP (hasP s) fun b => if b then retP () else failP 7
def wantsP : List Bt → Ps Unit
  | [] => retP ()
  | s :: l => thenP (wantP s) fun _ => wantsP l
def kindP (k : Int) : Ps Bt := fun ts => if (nextP ts).kind = k then .good (nextP ts).text (if k = 0 then ts else ts.drop 1) else .bad ((nextP ts).line, (nextP ts).col, 7)
def nameP : Ps Bt := kindP 1
/-- Things with commas between: those behind the first. -/
def sepF {α : Type} (one : Ps α) : Nat → List α → Ps (List α)
  | 0, l => retP l
  | f + 1, l => thenP (hasP [44]) fun b => if b then thenP one fun a => sepF one f (l ++ [a]) else retP l
def sepP {α : Type} (one : Ps α) : Ps (List α) := thenP one fun a ts => sepF one ts.length [a] ts

section
variable (typ : Ps TyD)
def basesL : List Bt := [[97, 110, 121], [110, 117, 108, 108], [98, 111, 111, 108], [105, 110, 116], [115, 116, 114]]
def fieldR : Ps (Bt × TyD) := thenP nameP fun s => thenP (wantP [58]) fun _ => thenP typ fun t => retP (s, t)
def primP : Ps TyD := thenP (takeP basesL) fun b => match b with
  | some k => retP (.mk k [] [] [])
  | none => thenP (takeP [[40], [123]]) fun c => match c with
    | none => thenP nameP fun s => retP (.mk 8 s [] [])
    | some 0 => thenP typ fun t => thenP (wantP [41]) fun _ => retP t
    | some _ => thenP (hasP [125]) fun e => if e then retP (.mk 5 [] [] []) else
        thenP (sepP (fieldR typ)) fun l => thenP (wantP [125]) fun _ => retP (.mk 5 [] (l.map (·.1)) (l.map (·.2)))
def altF : Nat → List TyD → Ps (List TyD)
  | 0, l => retP l
  | f + 1, l => thenP (hasP [124]) fun b => if b then thenP (primP typ) fun a => altF f (l ++ [a]) else retP l
def unionT : List TyD → TyD
  | [t] => t
  | l => .mk 7 [] [] l
def typP : Ps TyD := thenP (primP typ) fun a => thenP (fun ts => altF typ ts.length [a] ts) fun l => thenP (hasP [45, 62]) fun b =>
  if b then thenP typ fun r => retP (.mk 6 [] [] [unionT l, r]) else retP (unionT l)
def anyT : TyD := .mk 0 [] [] []
def noteR (l none_ : List TyD) : Ps (List TyD) := thenP (hasP [58]) fun b => if b then thenP typ fun t => retP (l ++ [t]) else retP (l ++ none_)
def headP (none_ : List TyD) : Ps (Bt × List TyD) := thenP (wantP [40]) fun _ => thenP nameP fun s => thenP (noteR typ [] [anyT]) fun l => thenP (wantP [41]) fun _ => thenP (noteR typ l none_) fun m => retP (s, m)
variable (expr unary : Ps NoD)
def nodeD (k : Int) (text : Bt) (n : Int) (at_ : TokD) (types : List TyD) (names : List Bt) (kids : List NoD) : NoD := .mk k text n at_.line at_.col types names kids
/-- Expressions, each behind a word or a sign (none: behind nothing). -/
def kidsP : List Bt → List NoD → Ps (List NoD)
  | [], l => retP l
  | s :: r, l => thenP (if s = [] then retP () else wantP s) fun _ => thenP expr fun x => kidsP r (l ++ [x])
def hereP : Ps TokD := fun ts => .good (nextP ts) ts
def seenP (f : TokD → List TokD → Bool) : Ps Bool := fun ts => .good (f (nextP ts) ts) ts
def leftF (ops : List Bt) (sub : Ps NoD) : Nat → NoD → Ps NoD
  | 0, a => retP a
  | f + 1, a => thenP hereP fun h => thenP (takeP ops) fun i => match i with
    | none => retP a
    | some i => thenP sub fun b => leftF ops sub f (nodeD 14 (ops.getD i []) 0 h [] [] [a, b])
def leftP (ops : List Bt) (sub : Ps NoD) : Ps NoD := thenP sub fun a ts => leftF ops sub ts.length a ts
def cmpsL : List Bt := [[60], [60, 61], [61, 61], [105, 115], [97, 115]]
def cmpP (sub : Ps NoD) : Ps NoD := thenP sub fun a => thenP hereP fun h => thenP (takeP cmpsL) fun i => match i with
  | none => retP a
  | some i =>
    if i = 3 then thenP (takeP tagsL) fun t => match t with
      | some t => retP (nodeD 12 [] t h [] [] [a])
      | none => failP 7
    else if i = 4 then thenP typ fun t => retP (nodeD 13 [] 0 h [t] [] [a])
    else thenP sub fun b => retP (nodeD 14 (cmpsL.getD i []) 0 h [] [] [a, b])
def ranksL : List (List Bt) := [[[111, 114]], [[97, 110, 100]], [], [[43, 43]], [[43], [45], [94]], [[42], [47], [37], [38], [60, 60], [62, 62]]]
/-- Operations of the ranks from 6 - f on. -/
def rankF : Nat → Ps NoD
  | 0 => unary
  | f + 1 => if f = 3 then cmpP typ (rankF f) else leftP (ranksL.getD (5 - f) []) (rankF f)
def exprP : Ps NoD := thenP hereP fun h => thenP (takeP [[108, 101, 116], [105, 102], [102, 110]]) fun i => match i with
  | none => rankF typ unary 6
  | some 0 => thenP nameP fun s => thenP (noteR typ [] []) fun t => thenP (kidsP expr [[61], [59]] []) fun k => retP (nodeD 5 s 0 h t [] k)
  | some 1 => thenP (kidsP expr [[], [116, 104, 101, 110], [101, 108, 115, 101]] []) fun k => retP (nodeD 11 [] 0 h [] [] k)
  | some _ => thenP (headP typ []) fun s => thenP (kidsP expr [[61, 62]] []) fun k => retP (nodeD 6 s.1 0 h s.2 [] k)
def nfieldP : Ps (Bt × NoD) := thenP nameP fun s => thenP (wantP [58]) fun _ => thenP expr fun x => retP (s, x)
/-- A record behind its bracket: its kind, text, names, kids. -/
def recP (h : TokD) : Ps NoD := thenP (seenP fun t _ => isT t [125]) fun e => if e then retP (nodeD 8 [] 0 h [] [] []) else
  thenP (seenP fun t ts => t.kind == 1 && isT (nextP (ts.drop 1)) [58]) fun c =>
    if c then thenP (sepP (nfieldP expr)) fun l => retP (nodeD 8 [] 0 h [] (l.map (·.1)) (l.map (·.2)))
    else thenP (kidsP expr [[]] []) fun k => thenP (wantP [119, 105, 116, 104]) fun _ => thenP nameP fun s => thenP (kidsP expr [[58]] k) fun m => retP (nodeD 10 s 0 h [] [] m)
def namedP (h : TokD) : Ps NoD := thenP nameP fun s => thenP (hasP [91]) fun b => if b then thenP (sepP typ) fun l => thenP (wantP [93]) fun _ => retP (nodeD 19 s 0 h l [] []) else retP (nodeD 4 s 0 h [] [] [])
def atomsL : List Bt := [[102, 97, 108, 115, 101], [116, 114, 117, 101], [110, 117, 108, 108], [114, 101, 97, 100], [112, 114, 105, 110, 116], [40], [123]]
def atomP : Ps NoD := thenP hereP fun h =>
  if h.kind = 3 then thenP (kindP 3) fun s => retP (nodeD 0 [] (parseV s).1 h [] [] [])
  else if h.kind = 4 then thenP (kindP 4) fun s => retP (nodeD 1 s 0 h [] [] [])
  else thenP (takeP atomsL) fun i => match i with
    | none => namedP typ h
    | some 0 => retP (nodeD 2 [] 0 h [] [] [])
    | some 1 => retP (nodeD 2 [] 1 h [] [] [])
    | some 2 => retP (nodeD 3 [] 0 h [] [] [])
    | some 3 => thenP (wantsP [[40], [41]]) fun _ => retP (nodeD 18 [] 0 h [] [] [])
    | some 4 => thenP (kidsP expr [[40]] []) fun k => thenP (wantP [41]) fun _ => retP (nodeD 17 [] 0 h [] [] k)
    | some 5 => thenP expr fun x => thenP (wantP [41]) fun _ => retP x
    | some _ => thenP (recP expr h) fun x => thenP (wantP [125]) fun _ => retP x
def postF : Nat → NoD → Ps NoD
  | 0, a => retP a
  | f + 1, a => thenP hereP fun h => thenP (takeP [[40], [46]]) fun i => match i with
    | none => retP a
    | some 0 => thenP (kidsP expr [[]] [a]) fun k => thenP (wantP [41]) fun _ => postF f (nodeD 7 [] 0 h [] [] k)
    | some _ => thenP nameP fun s => postF f (nodeD 9 s 0 h [] [] [a])
def postP : Ps NoD := thenP (atomP typ expr) fun a ts => postF expr ts.length a ts
def unaryP : Ps NoD := thenP hereP fun h => thenP (takeP [[45], [110, 111, 116]]) fun i => match i with
  | none => postP typ expr
  | some 0 => thenP unary fun x => retP (nodeD 16 [] 0 h [] [] [x])
  | some _ => thenP unary fun x => retP (nodeD 15 [] 0 h [] [] [x])
end
/-- Types, expressions, what stands behind a minus: at most so many within one another. -/
structure LevD where
  typ : Ps TyD
  expr : Ps NoD
  unary : Ps NoD
def levP : Nat → LevD
  | 0 => ⟨failP 6, failP 6, failP 6⟩
  | n + 1 => ⟨typP (levP n).typ, exprP (levP n).typ (levP n).expr (levP n).unary, unaryP (levP n).typ (levP n).expr (levP n).unary⟩
def varP : Ps VaD := thenP nameP fun s => thenP (hasP [60, 58]) fun b => if b then thenP (levP 100).typ fun t => retP ⟨s, t⟩ else retP ⟨s, anyT⟩
def varsP : Ps (List VaD) := thenP (hasP [91]) fun b => if b then thenP (sepP varP) fun l => thenP (wantP [93]) fun _ => retP l else retP []
def importP (h : TokD) : Ps ImD := thenP nameP fun s => thenP (wantP [58]) fun _ => thenP (sepP nameP) fun l => thenP (wantP [59]) fun _ => retP ⟨s, l, h.line, h.col⟩
def declP : Ps DeD := thenP (hasP [101, 120, 112, 111, 114, 116]) fun e => thenP hereP fun h => thenP (wantP [102, 110]) fun _ => thenP nameP fun s => thenP varsP fun v =>
  thenP (headP (levP 100).typ [anyT]) fun p => thenP (wantP [61]) fun _ => thenP (levP 100).expr fun b => thenP (wantP [59]) fun _ => retP ⟨s, e, v, p.1, p.2, b, h.line, h.col⟩
def impsF : Nat → List ImD → Ps (List ImD)
  | 0, l => retP l
  | f + 1, l => thenP hereP fun h => thenP (hasP [105, 109, 112, 111, 114, 116]) fun b => if b then thenP (importP h) fun i => impsF f (l ++ [i]) else retP l
def declsF : Nat → List DeD → Ps (List DeD)
  | 0, l => retP l
  | f + 1, l => thenP (seenP fun t _ => t.kind == 0) fun b => if b then retP l else thenP declP fun d => declsF f (l ++ [d])
def impsP : Ps (List ImD) := fun ts => impsF ts.length [] ts
def declsP : Ps (List DeD) := fun ts => declsF ts.length [] ts
def moduleP : Ps MoD := thenP impsP fun i => thenP declsP fun d => retP ⟨i, d⟩
/-- A text, read to its end. -/
def wholeP {α : Type} (p : Ps α) (s : Bt) : Option α × DgD :=
  if (lexL s).2.2.2 = 0 then (match thenP p (fun x => thenP (kindP 0) fun _ => retP x) (lexL s).1 with
    | .bad d => (none, d)
    | .good x _ => (some x, (0, 0, 0)))
  else (none, (lexL s).2)
end Go.Proofs.YtmbppnbekkbibaaGreatDoor
end
