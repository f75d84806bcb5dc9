/- GA, GB, GC -/
import Derived.WalkKit
import Derived.OpenShut
import Derived.WalkSpells
import Derived.WalkLawsBesides
import Derived.Maps.AppendAt
import Derived.Deep.AppendLies
import Derived.Deep.Draws
import Derived.Lib.ItoaNum
import Derived.Lib.ItoaMem
import Derived.Lib.AtoiAll
import Derived.Maps.OwnSet
import Derived.ProofKit
import Derived.SliceStrings
import Derived.SizedLaws
import Derived.Deep.RegionLaw
import Derived.Deep.RegionHeld
set_option linter.unusedSimpArgs false
set_option linter.unusedVariables false
section
/- Texts that belong together: PW, M, PN. -/
/- Plain facts on numbers of 64 bits that go round; no program in sight. -/
set_option linter.unusedVariables false
namespace Go.Proofs.YtbpedjkebemhnaaGreatDoor
open Go.RowKit

/-- In the range of an int. -/
def In64 (n : Int) : Prop := -9223372036854775808 ≤ n ∧ n ≤ 9223372036854775807
theorem wf_in64 {n : Int} (h : (Lit.int .i64 n).wf = true) : In64 n := by
  exact bounds_i64 h

theorem i64_wrap (n : Int) : IntKind.i64.wrap n = wrap64 n := IntWalk.i64_left n
theorem wrap64_id {n : Int} (h : In64 n) : wrap64 n = n := IntWalk.wrap64_in n h

/-- What the groups of a number bear. -/
def Fits (f u : Nat) : Prop := u < 18446744073709551616 ∧ u < 128 ^ (f + 1)
theorem Fits.pos {f u : Nat} (h : Fits f u) (hu : ¬ u < 128) : ∃ g, f = g + 1 := by
  cases f with
  | zero => exact absurd h.2 (by omega)
  | succ g => exact ⟨g, rfl⟩
theorem Fits.next {f u : Nat} (h : Fits (f + 1) u) : Fits f (u / 128) := by
  obtain ⟨h1, h2⟩ := h
  refine ⟨by omega, ?_⟩
  rw [Nat.pow_succ] at h2
  exact (Nat.div_lt_iff_lt_mul (by decide)).2 h2
/-- A group's bits fit. -/
def GrpFits (u x k : Nat) : Prop := u < 128 ^ k ∧ x < 128 ∧ (k ≤ 8 ∨ k = 9 ∧ x ≤ 1)
theorem GrpFits.lt {u x k : Nat} (h : GrpFits u x k) : u + x * 128 ^ k < 18446744073709551616 ∧ u + x * 128 ^ k < 128 ^ (k + 1) := by
  obtain ⟨h1, h2, h3⟩ := h
  have hk : u + x * 128 ^ k < (x + 1) * 128 ^ k := by rw [Nat.add_mul]; omega
  refine ⟨?_, ?_⟩
  · rcases h3 with h3 | ⟨rfl, h3⟩
    · have : (x + 1) * 128 ^ k ≤ 128 * 128 ^ 8 := Nat.mul_le_mul (by omega) (Nat.pow_le_pow_right (by decide) h3)
      have e : 128 * 128 ^ 8 < 18446744073709551616 := by decide
      omega
    · have : (x + 1) * 128 ^ 9 ≤ 2 * 128 ^ 9 := Nat.mul_le_mul (by omega) (Nat.le_refl _)
      have e : 2 * 128 ^ 9 = 18446744073709551616 := by decide
      omega
  · rw [Nat.pow_succ]
    have : (x + 1) * 128 ^ k ≤ 128 * 128 ^ k := Nat.mul_le_mul (by omega) (Nat.le_refl _)
    omega
section
variable {l : List UInt8} {k u x : Nat}
end
end Go.Proofs.YtbpedjkebemhnaaGreatDoor

/- Facts on memory that my walks share: a slice that reads as a list of cells, appends onto rows of the call's own, bytes and strings. Each is proved of any program. -/
set_option linter.unusedVariables false
namespace Go.Proofs.YtbpedjkebemhnaaGreatDoor
open Go.RowKit

/-- A fact behind a name: the walk does not rewrite by it. -/
theorem hid {p : Prop} (h : p) : Hid p := h

theorem le_alloc {w : World} {B : Nat} (h : B ≤ w.heap.size) (o : Obj) : B ≤ (w.alloc o).heap.size := by simp; omega

theorem plain_add (b off i : Nat) : (⟨b, off, none⟩ : Addr).add i = ⟨b, off + i, none⟩ := by
  unfold Addr.add; split <;> simp_all

/-- The slice value v reads as the cells xs, k of them an element; they lie below block B. -/
def Sl (w : World) (B k : Nat) (v : Value) (xs : List Value) : Prop :=
  ∃ (A : Option Addr) (n c : Nat), v = .slice A n c ∧ xs.length = n * k ∧ n ≤ c ∧ c ≤ maxLen ∧
    (0 < n → ∃ b off, A = some ⟨b, off, none⟩ ∧ b < B ∧ ∀ (j : Nat) u, xs[j]? = some u → w.cell? ⟨b, off + j, none⟩ = some u)

section
variable {w w' : World} {B B' k : Nat} {v : Value} {xs : List Value}
theorem Sl.nil (w : World) (B k : Nat) : Sl w B k (.slice none 0 0) [] :=
  ⟨none, 0, 0, rfl, by simp, Nat.le_refl _, Nat.zero_le _, fun h => absurd h (by omega)⟩
theorem Sl.keep (h : Sl w B k v xs) (hk : ∀ b o, b < B → w'.cell? ⟨b, o, none⟩ = w.cell? ⟨b, o, none⟩) : Sl w' B k v xs := by
  obtain ⟨A, n, c, hv, hl, hn, hc, hx⟩ := h
  refine ⟨A, n, c, hv, hl, hn, hc, fun h0 => ?_⟩
  obtain ⟨b, off, hA, hb, hcell⟩ := hx h0
  exact ⟨b, off, hA, hb, fun j u hu => (hk _ _ hb).trans (hcell j u hu)⟩
theorem Sl.more (h : Sl w B k v xs) (hB : B ≤ B') : Sl w B' k v xs := by
  obtain ⟨A, n, c, hv, hl, hn, hc, hx⟩ := h
  refine ⟨A, n, c, hv, hl, hn, hc, fun h0 => ?_⟩
  obtain ⟨b, off, hA, hb, hcell⟩ := hx h0
  exact ⟨b, off, hA, by omega, hcell⟩
theorem Sl.below (h : Sl w B k v xs) (hb : Below B w w') : Sl w' B k v xs := h.keep fun b o hp => hb.cell (p := ⟨b, o, none⟩) hp
theorem Sl.drew (h : Sl w B k v xs) : Sl w.drew B k v xs := h
theorem Sl.drewN (h : Sl w B k v xs) (n : Nat) : Sl (w.drewN n) B k v xs := h
theorem Sl.alloc (h : Sl w B k v xs) (hB : B ≤ w.heap.size) (o : Obj) : Sl (w.alloc o) B k v xs :=
  h.keep fun b o' hp => World.cell?_alloc_past _ _ _ (by show b < w.heap.size; omega)
theorem Sl.of_own {base : Nat} {e : TypeId} {n : Nat} (h : w.ownsRow base e k v n xs) : Sl w w.heap.size k v xs := by
  rcases h.2 with ⟨rfl, rfl⟩ | ⟨g, cap, cur, rfl, hb, hg, hn, hm, hs, htake⟩
  · exact ⟨none, 0, 0, rfl, h.1, Nat.le_refl _, Nat.zero_le _, fun h => absurd h (by omega)⟩
  · refine ⟨_, n, cap, rfl, h.1, hn, hm, fun _ => ⟨g, 0, rfl, (Array.getElem?_eq_some_iff.1 hg).1, fun j u hu => ?_⟩⟩
    have := h.cells (g := g) rfl j u hu
    rwa [plain_add] at this
theorem Sl.lt (h : Sl w w.heap.size k v xs) : Sl w w.heap.size k v xs := h
end

/-- What an element type of slices is: its row of the program's table. -/
def ElemIs (P : Program) (t e : TypeId) (z : Value) (size bytes : Nat) : Prop :=
  P.underlying t = some (.slice e) ∧ (P.info? e).map (fun i => (i.zero, i.size, i.bytes)) = some (some z, size, bytes) ∧ z.cells.size = size ∧ 0 < size

theorem below_of_grown {w w' : World} (h : w.grownBy w' none) : Below w.heap.size w w' :=
  ⟨h.os, h.tape, h.output, h.size, fun k hk => h.block k hk (by simp)⟩
theorem grown_of_below {w w' : World} (h : Below w.heap.size w w') (row : Option Nat) : w.grownBy w' row :=
  ⟨h.os, h.tape, h.output, h.size, fun k hk _ => h.block k hk⟩
theorem own_below {w w' : World} {base : Nat} {e : TypeId} {size : Nat} {v : Value} {n : Nat} {xs : List Value} (h : w.ownsRow base e size v n xs) (hb : Below w.heap.size w w') : w'.ownsRow base e size v n xs :=
  h.kept (grown_of_below hb none) (by cases hv : v.ownBlock <;> simp)
theorem own_base {w : World} {base base' : Nat} {e : TypeId} {size : Nat} {v : Value} {n : Nat} {xs : List Value} (h : w.ownsRow base e size v n xs) (hb : base' ≤ base) : w.ownsRow base' e size v n xs := by
  refine ⟨h.1, ?_⟩
  rcases h.2 with h2 | ⟨g, cap, cur, hv, hg, r⟩
  · exact .inl h2
  · exact .inr ⟨g, cap, cur, hv, by omega, r⟩

section
variable {P : Program}
/-- append: onto a row of the call's own (or nil), whatever slice. -/
theorem run_app (w : World) (base : Nat) {t e ty : TypeId} {z : Value} {size bytes : Nat} (hE : ElemIs P t e z size bytes) {v : Value} {n : Nat} {xs : List Value} (hown : w.ownsRow base e size v n xs)
    {B : Nat} {y : Value} {news : List Value} (hy : Sl w B size y news) (h1 : ∀ u ∈ news, u.oneCell' = true)
    (h63 : n * size + news.length ≤ maxLen) (hbytes : (n * size + news.length) * bytes ≤ 140737488355328) (hbase : base ≤ w.heap.size) :
    ∃ v' w' n', (Builtin.append_ #[t, t] ty #[v, y]).run P w = .ok v' w' ∧ w'.ownsRow base e size v' n' (xs ++ news) ∧ w.grownBy w' v.ownBlock ∧ (v'.ownBlock = v.ownBlock ∨ v'.ownBlock = some w.heap.size) := by
  obtain ⟨ht, hinfo, hzs, hsz⟩ := hE
  obtain ⟨i, hi, hz, hs, hb⟩ := info_parts hinfo
  obtain ⟨A, m, c, rfl, hl, hn, hc, hx⟩ := hy
  have hnm : n + m ≤ n * size + news.length := by
    rw [hl, ← Nat.add_mul]; exact Nat.le_mul_of_pos_right _ hsz
  rcases A with _ | ad
  · have hm : m = 0 := by
      rcases Nat.eq_zero_or_pos m with h0 | h0
      · exact h0
      · obtain ⟨b, off, hA, _⟩ := hx h0; cases hA
    subst hm
    obtain rfl : news = [] := List.eq_nil_of_length_eq_zero (by simpa using hl)
    refine ⟨v, w, n, ?_, by simpa using hown, World.grownBy.refl w _, .inl rfl⟩
    rcases hown.2 with ⟨rfl, rfl⟩ | ⟨g, cap, cur, rfl, _, _, hnc, _⟩
    · simp [Builtin.append_, run_underlying ht, sizeOf, typeInfo, hi, Builtin.lenOf, Builtin.firstCells]
    · simp [Builtin.append_, run_underlying ht, sizeOf, typeInfo, hi, Builtin.lenOf, Builtin.firstCells, hnc, storeCells]
  · have hcells : ∀ j u, news[j]? = some u → w.cell? (ad.add j) = some u := by
      intro j u hu
      have h0 : 0 < m := by
        rcases Nat.eq_zero_or_pos m with h0 | h0
        · subst h0
          obtain rfl : news = [] := List.eq_nil_of_length_eq_zero (by simpa using hl)
          simp at hu
        · exact h0
      obtain ⟨b, off, hA, _, hcell⟩ := hx h0
      injection hA with hA
      subst hA
      rw [plain_add]; exact hcell j u hu
    have hb2 : (n + m) * bytes ≤ 140737488355328 := Nat.le_trans (Nat.mul_le_mul_right _ hnm) hbytes
    obtain ⟨v', w', hrun, h2, h3, _, h5⟩ := run_append_own_at (P := P) w base t ty e i z size bytes ht hi hz hs hb hzs hsz v n xs hown ad m c news hl hcells h1 (by omega) hb2 hbase
    exact ⟨v', w', n + m, hrun, h2, h3, h5⟩

theorem wpList_app {w : World} {ops : Array Oper} {rest : List Oper} {o : Oper} {a : Act} {Q : Exit → Act → World → Prop} (hgd : o.guard = none) (s x : Operand) (t : TypeId)
    (ho : o.op = .call { callee := .builtin .append, args := #[s, x], argTypes := #[t, t] })
    (base : Nat) {e : TypeId} {z : Value} {size bytes : Nat} (hE : ElemIs P t e z size bytes) (v y : Value) (hs : a.eval s = v) (hx : a.eval x = y)
    {n : Nat} {xs : List Value} (hown : w.ownsRow base e size v n xs) {B : Nat} {news : List Value} (hy : Sl w B size y news) (h1 : ∀ u ∈ news, u.oneCell' = true)
    (h63 : n * size + news.length ≤ maxLen) (hbytes : (n * size + news.length) * bytes ≤ 140737488355328) (hbase : base ≤ w.heap.size)
    (h : ∀ v' w' n', w'.ownsRow base e size v' n' (xs ++ news) → w.grownBy w' v.ownBlock → (v'.ownBlock = v.ownBlock ∨ v'.ownBlock = some w.heap.size) → wpList P ops Q rest (a.put o.dst v') w') :
    wpList P ops Q (o :: rest) a w := by
  refine wpList_plain hgd fun K hK => ?_
  obtain ⟨v', w', n', hrun, h2, h3, h4⟩ := run_app (P := P) (ty := o.type) w base hE hown hy h1 h63 hbytes hbase
  unfold Oper.wp execOp
  simp only [ho, resolve, invoke, builtin, Sem.run_bind, Sem.run_pure, Result.andThen_ok, List.map_toArray, List.map_cons, List.map_nil, hs, hx, hrun]
  exact hK _ _ (h v' w' n' h2 h3 h4)
end

theorem below_app {B : Nat} {a w w' : World} {base : Nat} {e : TypeId} {size : Nat} {v : Value} {n : Nat} {xs : List Value} (h : Below B a w) (hown : w.ownsRow base e size v n xs) (hg : w.grownBy w' v.ownBlock) (hB : B ≤ base) (hs : B ≤ w.heap.size) : Below B a w' :=
  h.grown hg hs fun k hk => Nat.le_trans hB (hown.lt k hk).1

theorem below_drawn {B : Nat} (w : World) (n : Nat) : Below B w (w.drewN n) := ⟨rfl, rfl, rfl, Nat.le_refl _, fun _ _ => rfl⟩
/-- Two calls, one behind the other, that turn nothing that was there. -/
theorem bthen {a b c : World} (h : Below a.heap.size a b) (k : Below b.heap.size b c) : Below a.heap.size a c := h.trans (k.mono h.size)

/-- A fresh block that holds just the cells of a literal. -/
theorem sl_new (w : World) (cs : Array Value) (t : TypeId) (k n : Nat) (hs : cs.size = n * k) (hn : n ≤ maxLen) :
    Sl (w.alloc (.cells cs t)) (w.heap.size + 1) k (.slice (some ⟨w.heap.size, 0, none⟩) n n) cs.toList := by
  refine ⟨_, n, n, rfl, by simpa using hs, Nat.le_refl _, hn, fun _ => ⟨w.heap.size, 0, rfl, by omega, fun j u hu => ?_⟩⟩
  rw [cell_of_row _ _ _ cs t (0, 0) (heap_alloc_new w _)]
  simpa using hu

theorem str_append (a b : List UInt8) : (⟨a.toArray⟩ : ByteArray) ++ ⟨b.toArray⟩ = ⟨(a ++ b).toArray⟩ := by
  apply ByteArray.ext
  rw [ByteArray.data_append]
  exact List.append_toArray _ _
/-- A text's value. -/
abbrev sv (l : List UInt8) : Value := .string ⟨l.toArray⟩
/-- Bytes, as cells. -/
def bv (l : List UInt8) : List Value := l.map fun b => .int .u8 (b.toNat : Int)
theorem bv_length (l : List UInt8) : (bv l).length = l.length := by simp [bv]
theorem bv_append (a b : List UInt8) : bv (a ++ b) = bv a ++ bv b := by simp [bv]
theorem bv_get (l : List UInt8) (i : Nat) (h : i < l.length) : (bv l)[i]? = some (.int .u8 (l[i].toNat : Int)) := by simp [bv, h]
/-- The slice value v reads as these bytes. -/
def Bs (w : World) (B : Nat) (v : Value) (l : List UInt8) : Prop := Sl w B 1 v (bv l)
theorem Bs.open_ {w : World} {B : Nat} {v : Value} {l : List UInt8} (h : Bs w B v l) :
    ∃ (A : Option Addr) (c : Nat), v = .slice A l.length c ∧ l.length ≤ c ∧ c ≤ maxLen ∧
      (0 < l.length → ∃ b off, A = some ⟨b, off, none⟩ ∧ b < B ∧ ∀ (j : Nat) (hj : j < l.length), w.cell? ⟨b, off + j, none⟩ = some (.int .u8 (l[j].toNat : Int))) := by
  obtain ⟨A, n, c, rfl, hl, hn, hc, hx⟩ := h
  obtain rfl : l.length = n := by rw [← bv_length l, hl]; omega
  refine ⟨A, c, rfl, hn, hc, fun h0 => ?_⟩
  obtain ⟨b, off, hA, hb, hcell⟩ := hx h0
  exact ⟨b, off, hA, hb, fun j hj => hcell j _ (bv_get l j hj)⟩

theorem run_string_of {P : Program} {w : World} {B : Nat} {v : Value} {l : List UInt8} (h : Bs w B v l) (src e dst : TypeId) (hs : P.underlying src = some (.slice e)) (he : P.underlying e = some (.int .u8)) (hd : P.underlying dst = some .string) :
    (convert src dst v).run P w = .ok (.string ⟨l.toArray⟩) w := by
  obtain ⟨A, c, rfl, hn, hc, hx⟩ := h.open_
  by_cases h0 : l.length = 0
  · obtain rfl : l = [] := List.eq_nil_of_length_eq_zero h0
    rw [run_convert_bytes_string w src dst e _ _ c hs he hd]
    cases A with
    | none => simp [Conv.bytesToString, ByteArray.empty, ByteArray.emptyWithCapacity]; rfl
    | some ad =>
      exact (run_bytesToString w ad 0 c [] (run_loadCells_list (P := P) w ad [] (by simp))).trans rfl
  · obtain ⟨b, off, rfl, hb, hcell⟩ := hx (by omega)
    rw [run_convert_bytes_arg (P := P) w src e hs he b off l.length c (l.map fun x => (x.toNat : Int)) (by simp) (fun i hi => by rw [hcell i hi]; simp [hi]) dst hd]
    congr 2
    simp [strOfNums, Function.comp_def]
/-- v is nil or a row of the call's own, from block base on, that holds just these bytes. -/
def OwnB (w : World) (base : Nat) (e : TypeId) (v : Value) (l : List UInt8) : Prop := ∃ n, w.ownsRow base e 1 v n (bv l)
section
variable {w w' : World} {base : Nat} {e : TypeId} {v : Value} {l : List UInt8}
theorem OwnB.nil (w : World) (base : Nat) (e : TypeId) : OwnB w base e (.slice none 0 0) [] := ⟨0, World.ownsRow_nil _ _ _ _⟩
theorem OwnB.bs (h : OwnB w base e v l) : Bs w w.heap.size v l := by obtain ⟨n, h⟩ := h; exact Sl.of_own h
theorem OwnB.below (h : OwnB w base e v l) (hb : Below w.heap.size w w') : OwnB w' base e v l := by obtain ⟨n, h⟩ := h; exact ⟨n, own_below h hb⟩
theorem OwnB.alloc (h : OwnB w base e v l) (o : Obj) : OwnB (w.alloc o) base e v l := by obtain ⟨n, h⟩ := h; exact ⟨n, h.alloc o⟩
theorem OwnB.drewN (h : OwnB w base e v l) (k : Nat) : OwnB (w.drewN k) base e v l := h
theorem OwnB.drew (h : OwnB w base e v l) : OwnB w.drew base e v l := h
theorem OwnB.lt (h : OwnB w base e v l) : ∀ k, v.ownBlock = some k → base ≤ k ∧ k < w.heap.size := by obtain ⟨n, h⟩ := h; exact h.lt
end
theorem Bs.below {w w' : World} {B : Nat} {v : Value} {l : List UInt8} (h : Bs w B v l) (hb : Below B w w') : Bs w' B v l := Sl.below h hb
theorem Bs.alloc {w : World} {B : Nat} {v : Value} {l : List UInt8} (h : Bs w B v l) (hB : B ≤ w.heap.size) (o : Obj) : Bs (w.alloc o) B v l := Sl.alloc h hB o
theorem Bs.more {w : World} {B B' : Nat} {v : Value} {l : List UInt8} (h : Bs w B v l) (hB : B ≤ B') : Bs w B' v l := Sl.more h hB

/-- A fresh block of one byte, as 'append(b, x)' lays it. -/
theorem bs_new (w : World) (x : Int) (t : TypeId) (h : 0 ≤ x ∧ x < 256) : Bs (w.alloc (.cells #[.int .u8 x] t)) (w.heap.size + 1) (.slice (some ⟨w.heap.size, 0, none⟩) 1 1) [UInt8.ofNat x.toNat] := by
  have h1 := sl_new w #[.int .u8 x] t 1 1 rfl (by decide)
  have e : bv [UInt8.ofNat x.toNat] = [.int .u8 x] := by
    unfold bv
    simp only [List.map_cons, List.map_nil, UInt8.toNat_ofNat']
    congr 2
    omega
  unfold Bs; rw [e]; exact h1
end Go.Proofs.YtbpedjkebemhnaaGreatDoor

/- Plain facts on decimal numerals: which texts are one, and which number they say; no program in sight. -/
set_option linter.unusedVariables false
namespace Go.Proofs.YtbpedjkebemhnaaGreatDoor
open Go.RowKit

def isDig (c : UInt8) : Bool := decide (48 ≤ c.toNat) && decide (c.toNat ≤ 57)
/-- The number that digits say, behind acc. -/
def digStep (n : Nat) (c : UInt8) : Nat := 10 * n + (c.toNat - 48)
def valFrom (acc : Nat) (l : List UInt8) : Nat := l.foldl digStep acc
/-- A text that is a numeral: digits, none ahead that says nothing. -/
def Canon (l : List UInt8) : Prop := l ≠ [] ∧ (∀ c ∈ l, isDig c = true) ∧ (l.length = 1 ∨ l.head? ≠ some 48)
instance (l : List UInt8) : Decidable (Canon l) := by unfold Canon; infer_instance
def parseN (l : List UInt8) : Option Nat := if Canon l ∧ valFrom 0 l < 9223372036854775808 then some (valFrom 0 l) else none
def parseV (l : List UInt8) : Int × Bool := match parseN l with | some n => ((n : Int), true) | none => (0, false)

end Go.Proofs.YtbpedjkebemhnaaGreatDoor
end
section
/- Texts that belong together: PX, PY, PK, PP, PQ, PA. -/
/- Texts as tokens, in plain Lean. -/
set_option linter.unusedVariables false
namespace Go.Proofs.YtbpedjkebemhnaaGreatDoor

abbrev Bt := List UInt8
def letterB (c : UInt8) : Bool := (decide (97 ≤ c.toNat) && decide (c.toNat ≤ 122)) || (decide (65 ≤ c.toNat) && decide (c.toNat ≤ 90)) || decide (c.toNat = 95)
def digitB (c : UInt8) : Bool := decide (48 ≤ c.toNat) && decide (c.toNat ≤ 57)
def innerB (c : UInt8) : Bool := letterB c || digitB c
def blankB (c : UInt8) : Bool := decide (c.toNat = 32) || decide (c.toNat = 9) || decide (c.toNat = 10) || decide (c.toNat = 13)
def notLine (c : UInt8) : Bool := !decide (c.toNat = 10)
/-- How many bytes at the beginning are of a sort. -/
def rowL (p : UInt8 → Bool) (s : Bt) : Nat := (s.takeWhile p).length
theorem rowL_le (p : UInt8 → Bool) (s : Bt) : rowL p s ≤ s.length := by
  unfold rowL
  exact (List.takeWhile_sublist p).length_le
theorem rowL_cons (p : UInt8 → Bool) (c : UInt8) (s : Bt) : rowL p (c :: s) = if p c then rowL p s + 1 else 0 := by
  unfold rowL
  rw [List.takeWhile_cons]
  split <;> simp
/-- The row goes on to just the first byte that is not of the sort. -/
theorem rowL_at {p : UInt8 → Bool} {s : Bt} {k : Nat} (hk : k < s.length) (h : ∀ j (hj : j < k), p (s[j]'(by omega)) = true) (hn : p s[k] = false) : rowL p s = k := by
  induction s generalizing k with
  | nil => simp at hk
  | cons c s ih =>
    rw [rowL_cons]
    rcases k with _ | k
    · rw [if_neg (by simpa using hn)]
    · have h0 := h 0 (by omega)
      simp only [List.getElem_cons_zero] at h0
      rw [if_pos h0, ih (by simpa using hk) (fun j hj => by simpa using h (j + 1) (by omega)) (by simpa using hn)]
theorem rowL_all {p : UInt8 → Bool} {s : Bt} (h : ∀ j (hj : j < s.length), p s[j] = true) : rowL p s = s.length := by
  induction s with
  | nil => rfl
  | cons c s ih =>
    have h0 := h 0 (by simp)
    simp only [List.getElem_cons_zero] at h0
    rw [rowL_cons, if_pos h0, ih (fun j hj => by have h1 := h (j + 1) (by simpa using hj); rw [List.getElem_cons_succ] at h1; exact h1)]
    rfl

/-- How many bytes are passed over; q: within a remark. -/
def skipG : Bool → Bt → Nat
  | _, [] => 0
  | false, c :: s => if blankB c then skipG false s + 1 else if c.toNat = 35 then skipG true s + 1 else 0
  | true, c :: s => if c.toNat = 10 then skipG false s + 1 else skipG true s + 1
def skipL (s : Bt) : Nat := skipG false s
/-- One round of it, as the program goes. -/
def skipOne (s : Bt) : Nat :=
  rowL blankB s + (if ((s.drop (rowL blankB s)).head?).map UInt8.toNat = some 35 then rowL notLine (s.drop (rowL blankB s)) else 0)
theorem skipG_le (q : Bool) (s : Bt) : skipG q s ≤ s.length := by
  induction s generalizing q with
  | nil => cases q <;> simp [skipG]
  | cons c s ih =>
    cases q with
    | false =>
      rw [skipG]
      split
      · have := ih false; simp; exact this
      · split
        · have := ih true; simp; exact this
        · simp
    | true =>
      rw [skipG]
      split
      · have := ih false; simp; exact this
      · have := ih true; simp; exact this
theorem skip_blank (s : Bt) : skipG false s = rowL blankB s + skipG false (s.drop (rowL blankB s)) := by
  induction s with
  | nil => rfl
  | cons c s ih =>
    rw [rowL_cons]
    by_cases h : blankB c = true
    · rw [if_pos h, skipG, if_pos h, ih, List.drop_succ_cons]; omega
    · rw [if_neg h]; simp
theorem skip_line (s : Bt) : skipG true s = rowL notLine s + skipG false (s.drop (rowL notLine s)) := by
  induction s with
  | nil => rfl
  | cons c s ih =>
    rw [rowL_cons]
    by_cases h : c.toNat = 10
    · have hn : notLine c = false := by unfold notLine; simp [h]
      have hb : blankB c = true := by unfold blankB; simp [h]
      rw [if_neg (by simp [hn]), skipG, if_pos h]
      show skipG false s + 1 = 0 + skipG false (c :: s)
      rw [skipG, if_pos hb]; omega
    · have hn : notLine c = true := by unfold notLine; simp [h]
      rw [if_pos hn, skipG, if_neg h, ih, List.drop_succ_cons]; omega
theorem skip_one (s : Bt) : skipL s = skipOne s + skipL (s.drop (skipOne s)) := by
  unfold skipL skipOne
  rw [skip_blank]
  generalize hr : s.drop (rowL blankB s) = r
  cases r with
  | nil => simp [skipG, hr]
  | cons c t =>
    simp only [List.head?_cons, Option.map_some, Option.some.injEq]
    by_cases h : c.toNat = 35
    · rw [if_pos h]
      have hb : blankB c = false := by unfold blankB; simp [h]
      have hn : notLine c = true := by unfold notLine; simp [h]
      rw [← List.drop_drop, hr, skipG, if_neg (by simp [hb]), if_pos h, skip_line, rowL_cons, if_pos hn, List.drop_succ_cons]; omega
    · rw [if_neg h, Nat.add_zero, hr]
/-- Where one stands behind a byte. -/
def advB (p : Nat × Nat) (c : UInt8) : Nat × Nat := if c.toNat = 10 then (p.1 + 1, 1) else (p.1, p.2 + 1)
def advL (p : Nat × Nat) (s : Bt) : Nat × Nat := s.foldl advB p
theorem advL_append (p : Nat × Nat) (a b : Bt) : advL p (a ++ b) = advL (advL p a) b := by unfold advL; rw [List.foldl_append]
def escB (c : UInt8) : Option UInt8 := if c.toNat = 92 then some 92 else if c.toNat = 34 then some 34 else if c.toNat = 110 then some 10 else if c.toNat = 116 then some 9 else none
/-- A string's bytes, read from behind its first quote: what it says, how long it is with both quotes; back: behind a backslash. -/
def quoteG : Bool → Bt → Nat → Bt → Option (Bt × Nat)
  | _, _, _, [] => none
  | back, out, i, c :: s =>
    if c.toNat < 32 then none else
    if back then (match escB c with | some e => quoteG false (out ++ [e]) (i + 1) s | none => none) else
    if c.toNat = 92 then quoteG true out (i + 1) s else
    if c.toNat = 34 then some (out, i + 2) else quoteG false (out ++ [c]) (i + 1) s
def quoteL (s : Bt) : Option (Bt × Nat) := quoteG false [] 0 (s.drop 1)
theorem quoteG_le {back : Bool} {out : Bt} {i : Nat} {s : Bt} {r : Bt × Nat} (h : quoteG back out i s = some r) : i + 2 ≤ r.2 ∧ r.2 ≤ i + s.length + 1 ∧ r.1.length ≤ out.length + s.length := by
  induction s generalizing back out i with
  | nil => cases back <;> simp [quoteG] at h
  | cons c s ih =>
    rw [quoteG] at h
    split at h
    · cases h
    · split at h
      · split at h
        · obtain ⟨a, b, d⟩ := ih h
          simp only [List.length_append, List.length_cons, List.length_nil] at *; omega
        · cases h
      · split at h
        · obtain ⟨a, b, d⟩ := ih h
          simp only [List.length_append, List.length_cons, List.length_nil] at *; omega
        · split at h
          · injection h with h; subst h; simp only [List.length_cons]; omega
          · obtain ⟨a, b, d⟩ := ih h
            simp only [List.length_append, List.length_cons, List.length_nil] at *; omega
end Go.Proofs.YtbpedjkebemhnaaGreatDoor

/- Tokens, in plain Lean: what stands at the beginning of a text, and a text's tokens. -/
set_option linter.unusedVariables false
namespace Go.Proofs.YtbpedjkebemhnaaGreatDoor

def wordsL : List Bt := [[97, 110, 100],
  [97, 110, 121],
  [97, 115],
  [98, 111, 111, 108],
  [101, 108, 115, 101],
  [101, 120, 112, 111, 114, 116],
  [102, 97, 108, 115, 101],
  [102, 110],
  [102, 117, 110, 99, 116, 105, 111, 110],
  [105, 102],
  [105, 109, 112, 111, 114, 116],
  [105, 110],
  [105, 110, 116],
  [105, 115],
  [108, 101, 116],
  [110, 111, 116],
  [110, 117, 108, 108],
  [111, 114],
  [112, 114, 105, 110, 116],
  [114, 101, 97, 100],
  [114, 101, 99, 111, 114, 100],
  [115, 116, 114],
  [116, 104, 101, 110],
  [116, 114, 117, 101],
  [119, 105, 116, 104]]
def pairsL : List Bt := [[45, 62], [61, 62], [60, 58], [60, 60], [60, 61], [62, 62], [61, 61], [43, 43]]
def singlesL : Bt := [40, 41, 123, 125, 91, 93, 44, 58, 59, 61, 43, 45, 42, 47, 37, 38, 94, 60, 124, 46]
/-- What may be a name. -/
def nameL (s : Bt) : Bool := match s with
  | [] => false
  | c :: r => decide ((c :: r).length ≤ 32) && letterB c && decide (rowL innerB (c :: r) = (c :: r).length) && !decide ((c :: r) ∈ wordsL)
/-- The token that a text begins with: an error, or its kind, its text, how long it is. -/
def nextT (s : Bt) : Int ⊕ (Int × Bt × Nat) :=
  match s with
  | [] => .inl 5
  | c :: r =>
    if letterB c then
      (if 32 < rowL innerB (c :: r) then .inl 2 else if (c :: r).take (rowL innerB (c :: r)) ∈ wordsL then .inr (2, (c :: r).take (rowL innerB (c :: r)), rowL innerB (c :: r)) else .inr (1, (c :: r).take (rowL innerB (c :: r)), rowL innerB (c :: r)))
    else if digitB c then
      (if (parseV ((c :: r).take (rowL digitB (c :: r)))).2 then .inr (3, (c :: r).take (rowL digitB (c :: r)), rowL digitB (c :: r)) else .inl 3)
    else if c.toNat = 34 then
      (match quoteL (c :: r) with
        | none => .inl 4
        | some (t, n) => if 256 < t.length then .inl 2 else .inr (4, t, n))
    else if (c :: r).take 2 ∈ pairsL then .inr (5, (c :: r).take 2, 2)
    else if c ∈ singlesL then .inr (5, [c], 1) else .inl 5
structure TokD where
  kind : Int
  text : Bt
  line : Nat
  col : Nat
/-- The tokens from some place on, or the fault. -/
def lexF : Nat → Bt → Nat × Nat → List TokD → List TokD × (Nat × Nat × Int)
  | 0, _, _, _ => ([], (0, 0, 0))
  | f + 1, s, p, out =>
    if s.drop (skipL s) = [] then (out ++ [⟨0, [], (advL p (s.take (skipL s))).1, (advL p (s.take (skipL s))).2⟩], (0, 0, 0)) else
    match nextT (s.drop (skipL s)) with
    | .inl e => ([], ((advL p (s.take (skipL s))).1, (advL p (s.take (skipL s))).2, e))
    | .inr (kd, t, n) =>
      if out.length = 8192 then ([], ((advL p (s.take (skipL s))).1, (advL p (s.take (skipL s))).2, 19)) else
      lexF f ((s.drop (skipL s)).drop n) (advL (advL p (s.take (skipL s))) ((s.drop (skipL s)).take n)) (out ++ [⟨kd, t, (advL p (s.take (skipL s))).1, (advL p (s.take (skipL s))).2⟩])
theorem rowL_pos {p : UInt8 → Bool} {c : UInt8} {s : Bt} (h : p c = true) : 1 ≤ rowL p (c :: s) := by
  rw [rowL_cons, if_pos h]; omega
/-- A token has a byte at least, and no more than there are. -/
theorem nextT_le {s : Bt} {kd : Int} {t : Bt} {n : Nat} (h : nextT s = .inr (kd, t, n)) : 1 ≤ n ∧ n ≤ s.length := by
  cases s with
  | nil => simp [nextT] at h
  | cons c r =>
    rw [nextT] at h
    split at h
    · rename_i hl
      have hi : innerB c = true := by unfold innerB; rw [hl]; rfl
      have h1 := rowL_pos (s := r) hi
      have h2 := rowL_le innerB (c :: r)
      split at h
      · cases h
      · split at h
        · injection h with h; simp only [Prod.mk.injEq] at h; omega
        · injection h with h; simp only [Prod.mk.injEq] at h; omega
    · split at h
      · rename_i hd
        have h1 := rowL_pos (s := r) hd
        have h2 := rowL_le digitB (c :: r)
        split at h
        · injection h with h; simp only [Prod.mk.injEq] at h; omega
        · cases h
      · split at h
        · split at h
          · cases h
          · rename_i t' n' hq
            have := quoteG_le hq
            split at h
            · cases h
            · injection h with h; simp only [Prod.mk.injEq] at h
              simp only [List.drop_succ_cons, List.drop_zero] at this
              simp only [List.length_cons]; omega
        · split at h
          · rename_i hp
            injection h with h; simp only [Prod.mk.injEq] at h
            have h2 : ((c :: r).take 2).length = 2 := by
              have hall : ∀ m ∈ pairsL, m.length = 2 := by decide
              exact hall _ hp
            rw [List.length_take] at h2
            simp only [List.length_cons] at h2 ⊢; omega
          · split at h
            · injection h with h; simp only [Prod.mk.injEq] at h
              simp only [List.length_cons]; omega
            · cases h
end Go.Proofs.YtbpedjkebemhnaaGreatDoor

/- What a text's tokens are, kind by kind. -/
set_option linter.unusedVariables false
namespace Go.Proofs.YtbpedjkebemhnaaGreatDoor

end Go.Proofs.YtbpedjkebemhnaaGreatDoor

/- Where a text's tokens stand. -/
set_option linter.unusedVariables false
namespace Go.Proofs.YtbpedjkebemhnaaGreatDoor

/-- Where one stands behind so many bytes of a text. -/
def posL (text : Bt) (a : Nat) : Nat × Nat := advL (1, 1) (text.take a)
/-- Each token but a string stands in the text at its place. -/
inductive Placed (text : Bt) : Nat → List TokD → Prop where
  | done (a : Nat) : a ≤ text.length → Placed text a [⟨0, [], (posL text text.length).1, (posL text text.length).2⟩]
  | next (a b n : Nat) (t : TokD) (l : List TokD) : a ≤ b → posL text b = (t.line, t.col) → (t.kind ≠ 4 → t.text = (text.drop b).take n) → t.kind ≠ 0 → 1 ≤ n → b + n ≤ text.length → Placed text (b + n) l → Placed text a (t :: l)
/-- Places rise. -/
def before (p q : Nat × Nat) : Prop := p.1 < q.1 ∨ (p.1 = q.1 ∧ p.2 < q.2)
end Go.Proofs.YtbpedjkebemhnaaGreatDoor

/- Texts put together: what is read of a text, whatever blank stands behind it. -/
set_option linter.unusedVariables false
namespace Go.Proofs.YtbpedjkebemhnaaGreatDoor

end Go.Proofs.YtbpedjkebemhnaaGreatDoor

/- Strings as they are written, and tokens written one behind the other. -/
set_option linter.unusedVariables false
namespace Go.Proofs.YtbpedjkebemhnaaGreatDoor

def escW (c : UInt8) : Bt := if c.toNat = 92 then [92, 92] else if c.toNat = 34 then [92, 34] else if c.toNat = 10 then [92, 110] else if c.toNat = 9 then [92, 116] else [c]
/-- A string as it is written. -/
def quoteW (t : Bt) : Bt := 34 :: (t.flatMap escW ++ [34])
end Go.Proofs.YtbpedjkebemhnaaGreatDoor
end
section
/- Texts that belong together: MS, MT, MO, MR. -/
/- Memory with a footprint: what has turned lies in a set of blocks; slices of texts. Each fact is proved of any program. -/
set_option linter.unusedVariables false
namespace Go.Proofs.YtbpedjkebemhnaaGreatDoor
open Go.RowKit

/-- Nothing of what was there has turned but the blocks of F. -/
def Turn (F : Nat → Prop) (w w' : World) : Prop :=
  w'.os = w.os ∧ w'.tape = w.tape ∧ w'.output = w.output ∧ w.heap.size ≤ w'.heap.size ∧ ∀ k, k < w.heap.size → ¬ F k → w'.heap[k]? = w.heap[k]?

section
variable {F G : Nat → Prop} {a b c w w' : World}
theorem Turn.refl (F : Nat → Prop) (w : World) : Turn F w w := ⟨rfl, rfl, rfl, Nat.le_refl _, fun _ _ _ => rfl⟩
theorem Turn.size (h : Turn F w w') : w.heap.size ≤ w'.heap.size := h.2.2.2.1
theorem Turn.block (h : Turn F w w') {k : Nat} (hk : k < w.heap.size) (hF : ¬ F k) : w'.heap[k]? = w.heap[k]? := h.2.2.2.2 k hk hF
theorem Turn.trans (h : Turn F a b) (k : Turn G b c) (hG : ∀ i, i < a.heap.size → G i → F i) : Turn F a c :=
  ⟨k.1.trans h.1, k.2.1.trans h.2.1, k.2.2.1.trans h.2.2.1, Nat.le_trans h.size k.size, fun i hi hF =>
    (k.block (Nat.lt_of_lt_of_le hi h.size) (fun hg => hF (hG i hi hg))).trans (h.block hi hF)⟩
theorem Turn.of_below (h : Below w.heap.size w w') : Turn F w w' := ⟨h.os, h.tape, h.output, h.size, fun k hk _ => h.block k hk⟩
theorem Turn.of_grown {row : Option Nat} (h : w.grownBy w' row) (hr : ∀ k, row = some k → F k) : Turn F w w' :=
  ⟨h.os, h.tape, h.output, h.size, fun k hk hF => h.block k hk (fun e => hF (hr k e.symm))⟩
theorem Turn.below {B : Nat} (h : Turn F w w') (hB : B ≤ w.heap.size) (hF : ∀ k, k < B → ¬ F k) : Below B w w' :=
  ⟨h.1, h.2.1, h.2.2.1, h.size, fun k hk => h.block (Nat.lt_of_lt_of_le hk hB) (hF k hk)⟩
theorem Turn.mono (h : Turn F w w') (hF : ∀ k, k < w.heap.size → F k → G k) : Turn G w w' :=
  ⟨h.1, h.2.1, h.2.2.1, h.size, fun k hk hG => h.block hk (fun hf => hG (hF k hk hf))⟩
theorem Turn.alloc (F : Nat → Prop) (w : World) (o : Obj) : Turn F w (w.alloc o) := Turn.of_grown (World.grownBy_alloc w o none) (by simp)
theorem Turn.drewN (F : Nat → Prop) (w : World) (n : Nat) : Turn F w (w.drewN n) := ⟨rfl, rfl, rfl, Nat.le_refl _, fun _ _ _ => rfl⟩
theorem Turn.lt (h : Turn F w w') {k : Nat} (hk : k < w.heap.size) : k < w'.heap.size := Nat.lt_of_lt_of_le hk h.size
end

theorem Sl.keepB {w w' : World} {B k : Nat} {v : Value} {xs : List Value} (h : Sl w B k v xs) (hk : ∀ g, v.ownBlock = some g → g < B → w'.heap[g]? = w.heap[g]?) : Sl w' B k v xs := by
  obtain ⟨A, n, c, hv, hl, hn, hc, hx⟩ := h
  refine ⟨A, n, c, hv, hl, hn, hc, fun h0 => ?_⟩
  obtain ⟨b, off, hA, hb, hcell⟩ := hx h0
  refine ⟨b, off, hA, hb, fun j u hu => ?_⟩
  rw [← hcell j u hu]
  have h1 := hk b (by subst hv hA; rfl) hb
  simp only [World.cell?, h1]

/-- v reads as the cells xs, and leads to blocks of F alone. -/
def SlF (w : World) (F : Nat → Prop) (k : Nat) (v : Value) (xs : List Value) : Prop := Sl w w.heap.size k v xs ∧ ∀ g, v.ownBlock = some g → F g
section
variable {F G : Nat → Prop} {w w' : World} {k : Nat} {v : Value} {xs : List Value}
theorem SlF.turn (h : SlF w F k v xs) (t : Turn G w w') (hd : ∀ g, F g → ¬ G g) : SlF w' F k v xs :=
  ⟨(h.1.keepB fun g hg hl => t.block hl (hd g (h.2 g hg))).more t.size, h.2⟩
theorem SlF.mono (h : SlF w F k v xs) (hF : ∀ g, F g → G g) : SlF w G k v xs := ⟨h.1, fun g hg => hF g (h.2 g hg)⟩
theorem SlF.of_own {base n : Nat} {e : TypeId} (h : w.ownsRow base e k v n xs) (hF : ∀ g, v.ownBlock = some g → F g) : SlF w F k v xs := ⟨Sl.of_own h, hF⟩
end
theorem own_turn {G : Nat → Prop} {w w' : World} {base : Nat} {e : TypeId} {k : Nat} {v : Value} {n : Nat} {xs : List Value} (h : w.ownsRow base e k v n xs) (t : Turn G w w') (hd : ∀ g, v.ownBlock = some g → ¬ G g) : w'.ownsRow base e k v n xs := by
  refine ⟨h.1, ?_⟩
  rcases h.2 with h2 | ⟨g, cap, cur, hv, hg, hb, r⟩
  · exact .inl h2
  · refine .inr ⟨g, cap, cur, hv, hg, ?_, r⟩
    rw [t.block (Array.getElem?_eq_some_iff.1 hb).1 (hd g (by subst hv; rfl))]; exact hb
theorem map_turn {H : Type} {P : Program} {k : TypeId} {R : Value → Option (DataW H × List MemPlace)} {G : Nat → Prop} {w w' : World} {b n : Nat} {D : DataW H} (h : w.ownsMap P k R b n D) (t : Turn G w w') (hd : ¬ G b) : w'.ownsMap P k R b n D := by
  have hlt := h.lt
  obtain ⟨es, clock, hb, r⟩ := h
  exact ⟨es, clock, (t.block hlt hd).trans hb, r⟩
theorem block_turn {G : Nat → Prop} {w w' : World} {b : Nat} {o : Obj} (h : w.heap[b]? = some o) (t : Turn G w w') (hd : ¬ G b) : w'.heap[b]? = some o :=
  (t.block (Array.getElem?_eq_some_iff.1 h).1 hd).trans h
theorem block_lt {w : World} {b : Nat} {o : Obj} (h : w.heap[b]? = some o) : b < w.heap.size := (Array.getElem?_eq_some_iff.1 h).1
theorem own_form {w : World} {base : Nat} {e : TypeId} {k : Nat} {v : Value} {n : Nat} {xs : List Value} (h : w.ownsRow base e k v n xs) (h0 : 0 < n) :
    ∃ g c, v = .slice (some ⟨g, 0, none⟩) n c ∧ base ≤ g ∧ g < w.heap.size ∧ n ≤ c ∧ c ≤ maxLen := by
  rcases h.2 with ⟨_, h0⟩ | ⟨g, cap, cur, hv, hb, hg, hc, hm, _⟩
  · omega
  · exact ⟨g, cap, hv, hb, block_lt hg, hc, hm⟩

/-- Texts, as cells. -/
def svs (l : List (List UInt8)) : List Value := l.map sv
theorem svs_length (l : List (List UInt8)) : (svs l).length = l.length := by simp [svs]
theorem svs_append (a b : List (List UInt8)) : svs (a ++ b) = svs a ++ svs b := by simp [svs]
theorem svs_one (l : List (List UInt8)) : ∀ u ∈ svs l, u.oneCell' = true := by
  intro u hu
  obtain ⟨b, _, rfl⟩ := List.mem_map.1 hu
  rfl
theorem svs_get (l : List (List UInt8)) (i : Nat) (h : i < l.length) : (svs l)[i]? = some (sv l[i]) := by simp [svs, h]
/-- The slice value v reads as these texts. -/
def Ss (w : World) (B : Nat) (v : Value) (l : List (List UInt8)) : Prop := Sl w B 1 v (svs l)
theorem Ss.open_ {w : World} {B : Nat} {v : Value} {l : List (List UInt8)} (h : Ss w B v l) :
    ∃ (A : Option Addr) (c : Nat), v = .slice A l.length c ∧ l.length ≤ c ∧ c ≤ maxLen ∧
      (0 < l.length → ∃ b off, A = some ⟨b, off, none⟩ ∧ b < B ∧ ∀ (j : Nat) (hj : j < l.length), w.cell? ⟨b, off + j, none⟩ = some (sv l[j])) := by
  obtain ⟨A, n, c, rfl, hl, hn, hc, hx⟩ := h
  obtain rfl : l.length = n := by rw [← svs_length l, hl]; omega
  refine ⟨A, c, rfl, hn, hc, fun h0 => ?_⟩
  obtain ⟨b, off, hA, hb, hcell⟩ := hx h0
  exact ⟨b, off, hA, hb, fun j hj => hcell j _ (svs_get l j hj)⟩
theorem Ss.below {w w' : World} {B : Nat} {v : Value} {l : List (List UInt8)} (h : Ss w B v l) (hb : Below B w w') : Ss w' B v l := Sl.below h hb
theorem Ss.alloc {w : World} {B : Nat} {v : Value} {l : List (List UInt8)} (h : Ss w B v l) (hB : B ≤ w.heap.size) (o : Obj) : Ss (w.alloc o) B v l := Sl.alloc h hB o
theorem Ss.more {w : World} {B B' : Nat} {v : Value} {l : List (List UInt8)} (h : Ss w B v l) (hB : B ≤ B') : Ss w B' v l := Sl.more h hB
/-- v is nil or a row of the call's own that holds just these texts. -/
def OwnS (w : World) (base : Nat) (e : TypeId) (v : Value) (l : List (List UInt8)) : Prop := ∃ n, w.ownsRow base e 1 v n (svs l)
section
variable {w w' : World} {base : Nat} {e : TypeId} {v : Value} {l : List (List UInt8)}
theorem OwnS.nil (w : World) (base : Nat) (e : TypeId) : OwnS w base e (.slice none 0 0) [] := ⟨0, World.ownsRow_nil _ _ _ _⟩
theorem OwnS.ss (h : OwnS w base e v l) : Ss w w.heap.size v l := by obtain ⟨n, h⟩ := h; exact Sl.of_own h
theorem OwnS.below (h : OwnS w base e v l) (hb : Below w.heap.size w w') : OwnS w' base e v l := by obtain ⟨n, h⟩ := h; exact ⟨n, own_below h hb⟩
theorem OwnS.alloc (h : OwnS w base e v l) (o : Obj) : OwnS (w.alloc o) base e v l := by obtain ⟨n, h⟩ := h; exact ⟨n, h.alloc o⟩
theorem OwnS.drewN (h : OwnS w base e v l) (k : Nat) : OwnS (w.drewN k) base e v l := h
theorem OwnS.lt (h : OwnS w base e v l) : ∀ k, v.ownBlock = some k → base ≤ k ∧ k < w.heap.size := by obtain ⟨n, h⟩ := h; exact h.lt
theorem OwnS.turn {G : Nat → Prop} (h : OwnS w base e v l) (t : Turn G w w') (hd : ∀ g, v.ownBlock = some g → ¬ G g) : OwnS w' base e v l := by obtain ⟨n, h⟩ := h; exact ⟨n, own_turn h t hd⟩
theorem OwnS.row (h : OwnS w base e v l) : w.ownsRow base e 1 v l.length (svs l) := by
  obtain ⟨n, h⟩ := h
  have hn : n = l.length := by have := h.1; rw [svs_length] at this; omega
  subst hn; exact h
end
theorem wpList_appS {P : Program} {w : World} {ops : Array Oper} {rest : List Oper} {o : Oper} {a : Act} {Q : Exit → Act → World → Prop} (hgd : o.guard = none) (s x : Operand) (t : TypeId)
    (ho : o.op = .call { callee := .builtin .append, args := #[s, x], argTypes := #[t, t] })
    (base : Nat) {e : TypeId} {z : Value} (hE : ElemIs P t e z 1 16) (v y : Value) (hs : a.eval s = v) (hx : a.eval x = y)
    {l : List (List UInt8)} (hown : OwnS w base e v l) {B : Nat} {m : List (List UInt8)} (hy : Ss w B y m)
    (hlen : l.length + m.length ≤ 8796093022208) (hbase : base ≤ w.heap.size)
    (h : ∀ v' w', OwnS w' base e v' (l ++ m) → w.grownBy w' v.ownBlock → (v'.ownBlock = v.ownBlock ∨ v'.ownBlock = some w.heap.size) → wpList P ops Q rest (a.put o.dst v') w') :
    wpList P ops Q (o :: rest) a w :=
  wpList_app hgd s x t ho base hE v y hs hx hown.row hy (svs_one _) (by simp only [svs_length, maxLen]; omega) (by rw [svs_length]; omega) hbase
    (fun v' w' n' h1 h2 h3 => h v' w' ⟨n', by rw [svs_append]; exact h1⟩ h2 h3)
theorem below_appS {B : Nat} {a w w' : World} {base : Nat} {e : TypeId} {v : Value} {l : List (List UInt8)} (h : Below B a w) (hown : OwnS w base e v l) (hg : w.grownBy w' v.ownBlock) (hB : B ≤ base) (hs : B ≤ w.heap.size) : Below B a w' :=
  h.grown hg hs fun k hk => Nat.le_trans hB (hown.lt k hk).1
/-- A fresh block of one text, as 'append(l, x)' lays it. -/
theorem ss_new (w : World) (x : List UInt8) (t : TypeId) : Ss (w.alloc (.cells #[sv x] t)) (w.heap.size + 1) (.slice (some ⟨w.heap.size, 0, none⟩) 1 1) [x] :=
  sl_new w #[sv x] t 1 1 rfl (by decide)

theorem turn_set (w : World) (b i : Nat) (v : Value) : Turn (fun k => k = b) w (w.setCell ⟨b, i, none⟩ v) :=
  ⟨rfl, rfl, rfl, by simp, fun k _ hF => heap_setCell_other w _ k v hF⟩
end Go.Proofs.YtbpedjkebemhnaaGreatDoor

/- Opening arguments: what a slice of texts that came in reads as. -/
set_option linter.unusedVariables false
namespace Go.Proofs.YtbpedjkebemhnaaGreatDoor
open Go.ChangeShapes Go.WideShapes Go.ChangeAt Go.RowKit
section
variable {H : Type} {enc : TypeId × Value → H} {P : Program} {W : World}
theorem sv_of (s : ByteArray) : Value.string s = sv s.data.toList := by
  show Value.string s = Value.string ⟨s.data.toList.toArray⟩
  simp
end
end Go.Proofs.YtbpedjkebemhnaaGreatDoor

/- Opening arguments: what a slice of bytes that came in reads as. -/
set_option linter.unusedVariables false
namespace Go.Proofs.YtbpedjkebemhnaaGreatDoor
open Go.ChangeShapes Go.WideShapes Go.ChangeAt Go.RowKit
section
variable {H : Type} {enc : TypeId × Value → H} {P : Program} {W : World}
end
end Go.Proofs.YtbpedjkebemhnaaGreatDoor

/- Steps of regions that draw their order. -/
set_option linter.unusedVariables false
namespace Go.Proofs.YtbpedjkebemhnaaGreatDoor
open Go.RowKit

/-- append onto a row of the call's own, as one step. -/
theorem step_app {P : Program} {ops : Array Oper} {o : Oper} {a : Act} {w : World} {K : Act → World → Prop} {Q : Exit → Act → World → Prop} {E : Prop} (hgd : o.guard = none) (s x : Operand) (t : TypeId)
    (ho : o.op = .call { callee := .builtin .append, args := #[s, x], argTypes := #[t, t] })
    (base : Nat) {e : TypeId} {z : Value} {size bytes : Nat} (hE : ElemIs P t e z size bytes) (v y : Value) (hs : a.eval s = v) (hx : a.eval x = y)
    {n : Nat} {xs : List Value} (hown : w.ownsRow base e size v n xs) {B : Nat} {news : List Value} (hy : Sl w B size y news) (h1 : ∀ u ∈ news, u.oneCell' = true)
    (h63 : n * size + news.length ≤ maxLen) (hbytes : (n * size + news.length) * bytes ≤ 140737488355328) (hbase : base ≤ w.heap.size)
    (h : ∀ v' w' n', w'.ownsRow base e size v' n' (xs ++ news) → w.grownBy w' v.ownBlock → (v'.ownBlock = v.ownBlock ∨ v'.ownBlock = some w.heap.size) → K (a.put o.dst v') w') :
    if Region.wanted o (yielded ops a.tmps) = true then Oper.wp P o a w K Q else E := by
  have hw : Region.wanted o (yielded ops a.tmps) = true := by simp [Region.wanted, hgd]
  rw [if_pos hw]
  obtain ⟨v', w', n', hrun, h2, h3, h4⟩ := run_app (P := P) (ty := o.type) w base hE hown hy h1 h63 hbytes hbase
  unfold Oper.wp execOp
  simp only [ho, resolve, invoke, builtin, Sem.run_bind, Sem.run_pure, Result.andThen_ok, List.map_toArray, List.map_cons, List.map_nil, hs, hx, hrun]
  exact h v' w' n' h2 h3 h4
end Go.Proofs.YtbpedjkebemhnaaGreatDoor
end
