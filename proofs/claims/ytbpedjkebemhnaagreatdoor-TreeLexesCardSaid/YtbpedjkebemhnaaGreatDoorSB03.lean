/- GD, Shelf -/
import Derived.Test.YtbpedjkebemhnaaGreatDoorSB01
import Derived.Test.YtbpedjkebemhnaaGreatDoorSB02
import Derived.Test.YtbpedjkebemhnaaGreatDoorProg
import Derived.Deep.Slices
import Derived.Lib.SmallJoins
import Derived.Shelf.Strings.Builder1
import Derived.Shelf.Strings.Builder2
import Derived.Shelf.Strings.OnBuilder
import Derived.Shelf.Small.Bits
import Derived.Shelf.Small.Strs
import Derived.Shelf.Strings.BuilderF
import Derived.Shelf.Strings.BuilderK
import Derived.Shelf.Strconv.Atoi
import Derived.Shelf.Strconv.Itoa0
import Derived.Shelf.Strconv.Itoa1
import Derived.Shelf.LaysM
import Derived.Shelf.Strconv.Itoa2
import Derived.Shelf.Strconv.Itoa3
import Derived.Shelf.Strconv.AtoiErrFast
import Derived.Shelf.Strconv.ParseIntEmpty
import Derived.Shelf.Strconv.AtoiFail
import Derived.Shelf.Strconv.Clone
import Derived.Shelf.Strconv.SyntaxError
import Derived.Shelf.LaysC
import Derived.Shelf.Strconv.ToError
import Derived.Shelf.Strconv.Lower
import Derived.Shelf.Strconv.ParseUint10
import Derived.Shelf.Strconv.ParseUint10Empty
import Derived.Shelf.Strconv.ParseUint10Any
import Derived.Shelf.Strconv.ParseInt10
import Derived.Shelf.Strconv.AtoiLong
import Derived.Shelf.Strconv.AtoiInnerAll
import Derived.Shelf.Strconv.RangeError
import Derived.Shelf.Strconv.ToErrorRange
import Derived.Shelf.Strconv.AtoiAll
import Derived.Shelf.Strconv.ErrVarAll
import Derived.Shelf.Strings.Search1
import Derived.Shelf.Strings.Search2
import Derived.Shelf.Strings.Search3
import Derived.Shelf.Strings.Count
import Derived.Shelf.Strings.Shaped
import Derived.Shelf.GgClosure.StringsIndexFunc
import Derived.Shelf.Strings.Split
import Derived.Shelf.Strings.Fields
import Derived.Shelf.Strings.SplitShaped
import Derived.Shelf.Unicode.Latin
import Derived.Shelf.Unicode.Is16White
import Derived.Shelf.Unicode.IsSpaceAny
import Derived.Shelf.Unicode.Is16WhiteD
import Derived.Shelf.Unicode.IsSpaceAnyD
import Derived.Shelf.Strings.FieldsAny
import Derived.Shelf.Strings.FieldsFuncAny
import Derived.Shelf.Unicode.Is16Any
import Derived.Shelf.Unicode.Is32Any
import Derived.Shelf.Unicode.ExclAny
import Derived.Shelf.Slices.Turned
set_option linter.unusedSimpArgs false
set_option linter.unusedVariables false
section
/- Texts that belong together: TA, TB, TC. -/
/- Trees in plain Lean: types and expressions, which of them may be printed, and how. -/
set_option linter.unusedVariables false
namespace Go.Proofs.YtbpedjkebemhnaaGreatDoor

/-- A type. -/
inductive TyD where
  | mk (kind : Int) (name : Bt) (names : List Bt) (kids : List TyD) : TyD
/-- An expression. -/
inductive NoD where
  | mk (kind : Int) (text : Bt) (n line col : Int) (types : List TyD) (names : List Bt) (kids : List NoD) : NoD
def TyD.kind : TyD → Int | .mk k _ _ _ => k
def TyD.name : TyD → Bt | .mk _ n _ _ => n
def TyD.names : TyD → List Bt | .mk _ _ n _ => n
def TyD.kids : TyD → List TyD | .mk _ _ _ k => k

/-- Is a type's own part as its kind has it? -/
def kindT (k : Int) (nm : Bt) (ns ks : Nat) : Bool :=
  if k = 8 then ns + ks == 0 && nameL nm
  else if nm ≠ [] ∨ k < 0 ∨ 7 < k then false
  else if k = 5 then ns == ks
  else if k = 6 then ns == 0 && ks == 2
  else if k = 7 then ns == 0 && decide (2 ≤ ks)
  else ns + ks == 0
/-- Is a type a written one, of at most so many within one another? -/
def writtenB : Nat → TyD → Bool
  | 0, _ => false
  | m + 1, .mk k nm ns ks => ns.all nameL && ks.all (writtenB m) && kindT k nm ns.length ks.length
/-- Texts put together with one between. -/
def joinS (sep : Bt) : List Bt → Bt
  | [] => []
  | [x] => x
  | x :: y :: l => x ++ (sep ++ joinS sep (y :: l))
/-- In brackets, if its kind is one of these. -/
def innerS (kinds : List Int) (k : Int) (s : Bt) : Bt := if kinds.contains k then [40] ++ (s ++ [41]) else s
/-- A field: its name and what it is. -/
def fieldS (n s : Bt) : Bt := n ++ ([58, 32] ++ s)
mutual
/-- A written type as text. -/
def showT : TyD → Bt
  | .mk k nm ns ks =>
    if k = 0 then [97, 110, 121]
    else if k = 1 then [110, 117, 108, 108]
    else if k = 2 then [98, 111, 111, 108]
    else if k = 3 then [105, 110, 116]
    else if k = 4 then [115, 116, 114]
    else if k = 5 then [123] ++ (joinS [44, 32] (List.zipWith fieldS ns (showTs ks)) ++ [125])
    else if k = 6 then innerS [6] ((ks.map TyD.kind).getD 0 0) ((showTs ks).getD 0 []) ++ ([32, 45, 62, 32] ++ (showTs ks).getD 1 [])
    else if k = 7 then joinS [32, 124, 32] (List.zipWith (innerS [6, 7]) (ks.map TyD.kind) (showTs ks))
    else nm
def showTs : List TyD → List Bt
  | [] => []
  | t :: l => showT t :: showTs l
end
theorem showTs_map : ∀ l : List TyD, showTs l = l.map showT
  | [] => by simp [showTs]
  | t :: l => by simp [showTs, showTs_map l]
def typeS (t : TyD) : Bt := if writtenB 16 t then showT t else []
/-- A type behind a colon, if there is one. -/
def noteS (l : List TyD) (i : Nat) : Bt := match l[i]? with | some t => [58, 32] ++ showT t | none => []
/-- What a kind of node has: a name as text, the least and the most types, kids (none: as many as names), the most of N. -/
structure HasD where
  name : Bool
  low : Nat
  types : Nat
  kids : Int
  most : Int
def hasD (k : Int) : HasD :=
  if k = 0 then ⟨false, 0, 0, 0, 9223372036854775807⟩
  else if k = 2 then ⟨false, 0, 0, 0, 1⟩
  else if k = 4 then ⟨true, 0, 0, 0, 0⟩
  else if k = 5 then ⟨true, 0, 1, 2, 0⟩
  else if k = 6 then ⟨true, 1, 2, 1, 0⟩
  else if k = 7 then ⟨false, 0, 0, 2, 0⟩
  else if k = 8 then ⟨false, 0, 0, -1, 0⟩
  else if k = 9 then ⟨true, 0, 0, 1, 0⟩
  else if k = 10 then ⟨true, 0, 0, 2, 0⟩
  else if k = 11 then ⟨false, 0, 0, 3, 0⟩
  else if k = 12 then ⟨false, 0, 0, 1, 5⟩
  else if k = 13 then ⟨false, 1, 1, 1, 0⟩
  else if k = 14 then ⟨false, 0, 0, 2, 0⟩
  else if k = 15 ∨ k = 16 ∨ k = 17 then ⟨false, 0, 0, 1, 0⟩
  else if k = 19 then ⟨true, 1, 1048576, 0, 0⟩
  else ⟨false, 0, 0, 0, 0⟩
def opsL : List Bt := [[111, 114], [97, 110, 100], [60], [60, 61], [61, 61], [43, 43], [43], [45], [94], [42], [47], [37], [38], [60, 60], [62, 62]]
def strB (s : Bt) : Bool := decide (s.length ≤ 256) && s.all (fun c => !(decide (c < 32) && c != 9 && c != 10))
def textB (k : Int) (s : Bt) (named : Bool) : Bool :=
  if named then nameL s else if k = 1 then strB s else if k = 14 then opsL.contains s else s == []
/-- Is a node's own part as its kind has it? -/
def ownN (k : Int) (text : Bt) (n : Int) (types names kids : Nat) : Bool :=
  decide (0 ≤ n ∧ n ≤ (hasD k).most) && textB k text (hasD k).name && decide ((hasD k).low ≤ types ∧ types ≤ (hasD k).types) &&
    (if (hasD k).kids < 0 then kids == names else names == 0 && (kids : Int) == (hasD k).kids)
def nodeB : Nat → NoD → Bool
  | 0, _ => false
  | m + 1, .mk k text n _ _ types names kids =>
    decide (0 ≤ k ∧ k < 20) && ownN k text n types.length names.length kids.length && names.all nameL && types.all (writtenB 16) && kids.all (nodeB m)
def tagsL : List Bt := [[110, 117, 108, 108], [98, 111, 111, 108], [105, 110, 116], [115, 116, 114], [114, 101, 99, 111, 114, 100], [102, 117, 110, 99, 116, 105, 111, 110]]
def cat (l : List Bt) : Bt := l.flatMap id
/-- An expression without others in it as text. -/
def simpleS (k : Int) (text : Bt) (n : Int) (types : List TyD) : Bt :=
  if k = 0 then Lib.itoa n
  else if k = 1 then quoteW text
  else if k = 2 then (if n = 0 then [102, 97, 108, 115, 101] else [116, 114, 117, 101])
  else if k = 3 then [110, 117, 108, 108]
  else if k = 18 then [114, 101, 97, 100, 40, 41]
  else if k = 19 then cat [text, [91], joinS [44, 32] (types.map showT), [93]]
  else text
/-- A node as text: of its own part and what is within. -/
def nodeS (k : Int) (text : Bt) (n : Int) (types : List TyD) (names : List Bt) (s : List Bt) : Bt :=
  if k = 7 then cat [s.getD 0 [], [40], s.getD 1 [], [41]]
  else if k = 9 then cat [s.getD 0 [], [46], text]
  else if k = 10 then cat [[123], s.getD 0 [], [32, 119, 105, 116, 104, 32], text, [58, 32], s.getD 1 [], [125]]
  else if k = 8 then cat [[123], joinS [44, 32] (List.zipWith fieldS names s), [125]]
  else if k = 17 then cat [[112, 114, 105, 110, 116, 40], s.getD 0 [], [41]]
  else if k = 5 then cat [[40], [108, 101, 116, 32], text, noteS types 0, [32, 61, 32], s.getD 0 [], [59, 32], s.getD 1 [], [41]]
  else if k = 6 then cat [[40], [102, 110, 32, 40], text, noteS types 0, [41], noteS types 1, [32, 61, 62, 32], s.getD 0 [], [41]]
  else if k = 11 then cat [[40], [105, 102, 32], s.getD 0 [], [32, 116, 104, 101, 110, 32], s.getD 1 [], [32, 101, 108, 115, 101, 32], s.getD 2 [], [41]]
  else if k = 12 then cat [[40], s.getD 0 [], [32, 105, 115, 32], tagsL.getD n.toNat [], [41]]
  else if k = 13 then cat [[40], s.getD 0 [], [32, 97, 115, 32], (types.map showT).getD 0 [], [41]]
  else if k = 14 then cat [[40], s.getD 0 [], [32], text, [32], s.getD 1 [], [41]]
  else if k = 15 then cat [[40], [110, 111, 116, 32], s.getD 0 [], [41]]
  else if k = 16 then cat [[40], [45], s.getD 0 [], [41]]
  else simpleS k text n types
mutual
def exprS : NoD → Bt
  | .mk k text n _ _ types names kids => nodeS k text n types names (exprSs kids)
def exprSs : List NoD → List Bt
  | [] => []
  | x :: l => exprS x :: exprSs l
end
theorem exprSs_map : ∀ l : List NoD, exprSs l = l.map exprS
  | [] => by simp [exprSs]
  | t :: l => by simp [exprSs, exprSs_map l]
def exprT (x : NoD) : Bt := if nodeB 25 x then exprS x else []
end Go.Proofs.YtbpedjkebemhnaaGreatDoor

/- What types and nodes read as in memory. -/
set_option linter.unusedVariables false
namespace Go.Proofs.YtbpedjkebemhnaaGreatDoor
open Go.RowKit

theorem t_sl_shape {w : World} {B k : Nat} {v : Value} {xs : List Value} (h : Sl w B k v xs) : ∃ A n c, v = .slice A n c := by
  obtain ⟨A, n, c, hv, _⟩ := h
  exact ⟨A, n, c, hv⟩
theorem t_sl_len {w : World} {B k : Nat} {A : Option Addr} {n c : Nat} {xs : List Value} (h : Sl w B k (.slice A n c) xs) : xs.length = n * k ∧ n ≤ c ∧ c ≤ 2 ^ 63 - 1 := by
  obtain ⟨A', n', c', hv, hl, hn, hc, _⟩ := h
  injection hv with e1 e2 e3
  subst e1 e2 e3
  unfold maxLen at hc
  exact ⟨hl, hn, hc⟩
theorem t_sl_exact {w : World} {B k m : Nat} {v : Value} {xs : List Value} (h : Sl w B k v xs) (hk : 0 < k) (hm : xs.length = m * k) : ∃ A c, v = .slice A m c := by
  obtain ⟨A, n, c, rfl⟩ := t_sl_shape h
  have := (t_sl_len h).1
  rw [hm] at this
  obtain rfl : m = n := Nat.eq_of_mul_eq_mul_right hk this
  exact ⟨A, c, rfl⟩
/-- An element's cells. -/
theorem t_sl_in {w : World} {B k : Nat} {xs : List Value} {A : Option Addr} {n c : Nat} (h : Sl w B k (.slice A n c) xs) {i : Nat} (hi : i < n) (hk : 0 < k) :
    ∃ b off, A = some ⟨b, off, none⟩ ∧ b < B ∧ ∀ (j : Nat) u, xs[i * k + j]? = some u → w.cell? ⟨b, off + (i * k + j), none⟩ = some u := by
  obtain ⟨A', n', c', hv', hl, hn, hc, hx⟩ := h
  injection hv' with e1 e2 e3
  subst e1 e2 e3
  obtain ⟨b, off, hA, hbb, hcell⟩ := hx (by omega)
  exact ⟨b, off, hA, hbb, fun j u hu => hcell _ u hu⟩
mutual
/-- Four cells read as a type. -/
inductive TyR (w : World) (B : Nat) : List Value → TyD → Prop
  | mk {k : Int} {nm : Bt} {vn vk : Value} {ns : List Bt} {ks : List TyD} {xk : List Value} : Ss w B vn ns → Sl w B 4 vk xk → TysR w B xk ks → TyR w B [.int .i64 k, sv nm, vn, vk] (.mk k nm ns ks)
inductive TysR (w : World) (B : Nat) : List Value → List TyD → Prop
  | nil : TysR w B [] []
  | cons {x y : List Value} {c : TyD} {l : List TyD} : TyR w B x c → TysR w B y l → TysR w B (x ++ y) (c :: l)
end
mutual
/-- Eight cells read as a node. -/
inductive NoR (w : World) (B : Nat) : List Value → NoD → Prop
  | mk {k n line col : Int} {text : Bt} {vt vn vk : Value} {ts : List TyD} {xt : List Value} {ns : List Bt} {ks : List NoD} {xk : List Value} : Sl w B 4 vt xt → TysR w B xt ts → Ss w B vn ns → Sl w B 8 vk xk → NosR w B xk ks →
      NoR w B [.int .i64 k, sv text, .int .i64 n, .int .i64 line, .int .i64 col, vt, vn, vk] (.mk k text n line col ts ns ks)
inductive NosR (w : World) (B : Nat) : List Value → List NoD → Prop
  | nil : NosR w B [] []
  | cons {x y : List Value} {c : NoD} {l : List NoD} : NoR w B x c → NosR w B y l → NosR w B (x ++ y) (c :: l)
end
mutual
theorem TyR.keep {w w' : World} {B : Nat} {x : List Value} {c : TyD} (h : TyR w B x c) (hb : Below B w w') : TyR w' B x c :=
  match h with
  | .mk h1 h2 h3 => .mk (Sl.below h1 hb) (h2.below hb) (h3.keep hb)
theorem TysR.keep {w w' : World} {B : Nat} {x : List Value} {l : List TyD} (h : TysR w B x l) (hb : Below B w w') : TysR w' B x l :=
  match h with
  | .nil => .nil
  | .cons h1 h2 => .cons (h1.keep hb) (h2.keep hb)
end
mutual
theorem TyR.more {w : World} {B B' : Nat} {x : List Value} {c : TyD} (h : TyR w B x c) (hb : B ≤ B') : TyR w B' x c :=
  match h with
  | .mk h1 h2 h3 => .mk (Sl.more h1 hb) (h2.more hb) (h3.more hb)
theorem TysR.more {w : World} {B B' : Nat} {x : List Value} {l : List TyD} (h : TysR w B x l) (hb : B ≤ B') : TysR w B' x l :=
  match h with
  | .nil => .nil
  | .cons h1 h2 => .cons (h1.more hb) (h2.more hb)
end
theorem TyR.far {W w' : World} {B : Nat} {x : List Value} {c : TyD} (h : TyR W B x c) (hB : B ≤ W.heap.size) (hb : Below W.heap.size W w') : TyR w' w'.heap.size x c :=
  (h.keep (hb.mono hB)).more (Nat.le_trans hB hb.size)
theorem TysR.far {W w' : World} {B : Nat} {x : List Value} {c : List TyD} (h : TysR W B x c) (hB : B ≤ W.heap.size) (hb : Below W.heap.size W w') : TysR w' w'.heap.size x c :=
  (h.keep (hb.mono hB)).more (Nat.le_trans hB hb.size)
theorem TyR.len {w : World} {B : Nat} {x : List Value} {c : TyD} (h : TyR w B x c) : x.length = 4 := by
  cases h; rfl
theorem TysR.length {w : World} {B : Nat} : ∀ {x : List Value} {l : List TyD}, TysR w B x l → x.length = l.length * 4
  | _, _, .nil => rfl
  | _, _, .cons h1 h2 => by
    have := h1.len
    have := TysR.length h2
    rw [List.length_append, List.length_cons]; omega
theorem TysR.at {w : World} {B : Nat} : ∀ {x : List Value} {l : List TyD}, TysR w B x l → ∀ (i : Nat) (hi : i < l.length), TyR w B ((x.drop (i * 4)).take 4) l[i]
  | _, _, .nil, i, hi => by simp at hi
  | _, _, .cons (x := x) (y := y) h1 h2, i, hi => by
    have h5 := h1.len
    rcases i with _ | i
    · rw [Nat.zero_mul, List.drop_zero, ← h5, List.take_left]; exact h1
    · have : (x ++ y).drop ((i + 1) * 4) = y.drop (i * 4) := by
        rw [show (i + 1) * 4 = x.length + i * 4 by omega, ← List.drop_drop, List.drop_left]
      rw [this]
      exact TysR.at h2 i (by simpa using hi)
mutual
theorem NoR.keep {w w' : World} {B : Nat} {x : List Value} {c : NoD} (h : NoR w B x c) (hb : Below B w w') : NoR w' B x c :=
  match h with
  | .mk h1 h2 h3 h4 h5 => .mk (h1.below hb) (h2.keep hb) (Sl.below h3 hb) (h4.below hb) (h5.keep hb)
theorem NosR.keep {w w' : World} {B : Nat} {x : List Value} {l : List NoD} (h : NosR w B x l) (hb : Below B w w') : NosR w' B x l :=
  match h with
  | .nil => .nil
  | .cons h1 h2 => .cons (h1.keep hb) (h2.keep hb)
end
mutual
theorem NoR.more {w : World} {B B' : Nat} {x : List Value} {c : NoD} (h : NoR w B x c) (hb : B ≤ B') : NoR w B' x c :=
  match h with
  | .mk h1 h2 h3 h4 h5 => .mk (h1.more hb) (h2.more hb) (Sl.more h3 hb) (h4.more hb) (h5.more hb)
theorem NosR.more {w : World} {B B' : Nat} {x : List Value} {l : List NoD} (h : NosR w B x l) (hb : B ≤ B') : NosR w B' x l :=
  match h with
  | .nil => .nil
  | .cons h1 h2 => .cons (h1.more hb) (h2.more hb)
end
theorem NoR.far {W w' : World} {B : Nat} {x : List Value} {c : NoD} (h : NoR W B x c) (hB : B ≤ W.heap.size) (hb : Below W.heap.size W w') : NoR w' w'.heap.size x c :=
  (h.keep (hb.mono hB)).more (Nat.le_trans hB hb.size)
theorem NosR.far {W w' : World} {B : Nat} {x : List Value} {c : List NoD} (h : NosR W B x c) (hB : B ≤ W.heap.size) (hb : Below W.heap.size W w') : NosR w' w'.heap.size x c :=
  (h.keep (hb.mono hB)).more (Nat.le_trans hB hb.size)
theorem NoR.len {w : World} {B : Nat} {x : List Value} {c : NoD} (h : NoR w B x c) : x.length = 8 := by
  cases h; rfl
theorem NosR.length {w : World} {B : Nat} : ∀ {x : List Value} {l : List NoD}, NosR w B x l → x.length = l.length * 8
  | _, _, .nil => rfl
  | _, _, .cons h1 h2 => by
    have := h1.len
    have := NosR.length h2
    rw [List.length_append, List.length_cons]; omega
theorem NosR.at {w : World} {B : Nat} : ∀ {x : List Value} {l : List NoD}, NosR w B x l → ∀ (i : Nat) (hi : i < l.length), NoR w B ((x.drop (i * 8)).take 8) l[i]
  | _, _, .nil, i, hi => by simp at hi
  | _, _, .cons (x := x) (y := y) h1 h2, i, hi => by
    have h5 := h1.len
    rcases i with _ | i
    · rw [Nat.zero_mul, List.drop_zero, ← h5, List.take_left]; exact h1
    · have : (x ++ y).drop ((i + 1) * 8) = y.drop (i * 8) := by
        rw [show (i + 1) * 8 = x.length + i * 8 by omega, ← List.drop_drop, List.drop_left]
      rw [this]
      exact NosR.at h2 i (by simpa using hi)
theorem TyR.parts {w : World} {B : Nat} {x : List Value} {k : Int} {nm : Bt} {ns : List Bt} {ks : List TyD} (h : TyR w B x (.mk k nm ns ks)) :
    ∃ A1 c1 A2 c2 xk, x = [.int .i64 k, sv nm, .slice A1 ns.length c1, .slice A2 ks.length c2] ∧ Ss w B (.slice A1 ns.length c1) ns ∧ Sl w B 4 (.slice A2 ks.length c2) xk ∧ TysR w B xk ks := by
  cases h with
  | mk h1 h2 h3 =>
    obtain ⟨A1, c1, rfl⟩ := t_sl_exact h1 (by omega) (m := ns.length) (by rw [svs_length]; omega)
    obtain ⟨A2, c2, rfl⟩ := t_sl_exact h2 (by omega) (m := ks.length) h3.length
    exact ⟨A1, c1, A2, c2, _, rfl, h1, h2, h3⟩
theorem NoR.parts {w : World} {B : Nat} {x : List Value} {k n line col : Int} {text : Bt} {ts : List TyD} {ns : List Bt} {ks : List NoD} (h : NoR w B x (.mk k text n line col ts ns ks)) :
    ∃ A1 c1 A2 c2 A3 c3 xt xk, x = [.int .i64 k, sv text, .int .i64 n, .int .i64 line, .int .i64 col, .slice A1 ts.length c1, .slice A2 ns.length c2, .slice A3 ks.length c3] ∧ Sl w B 4 (.slice A1 ts.length c1) xt ∧ TysR w B xt ts ∧ Ss w B (.slice A2 ns.length c2) ns ∧ Sl w B 8 (.slice A3 ks.length c3) xk ∧ NosR w B xk ks := by
  cases h with
  | mk h1 h1r h2 h3 h3r =>
    obtain ⟨A1, c1, rfl⟩ := t_sl_exact h1 (by omega) (m := ts.length) h1r.length
    obtain ⟨A2, c2, rfl⟩ := t_sl_exact h2 (by omega) (m := ns.length) (by rw [svs_length]; omega)
    obtain ⟨A3, c3, rfl⟩ := t_sl_exact h3 (by omega) (m := ks.length) h3r.length
    exact ⟨A1, c1, A2, c2, A3, c3, _, _, rfl, h1, h1r, h2, h3, h3r⟩
theorem TyR.shape {w : World} {B : Nat} {x : List Value} {c : TyD} (h : TyR w B x c) : ∃ k s A1 n1 c1 A2 n2 c2, x = [.int .i64 k, .string s, .slice A1 n1 c1, .slice A2 n2 c2] := by
  cases h with
  | mk h1 h2 _ =>
    obtain ⟨A1, n1, c1, rfl⟩ := t_sl_shape h1
    obtain ⟨A2, n2, c2, rfl⟩ := t_sl_shape h2
    exact ⟨_, _, _, _, _, _, _, _, rfl⟩
theorem NoR.shape {w : World} {B : Nat} {x : List Value} {c : NoD} (h : NoR w B x c) : ∃ k s n l o A1 n1 c1 A2 n2 c2 A3 n3 c3, x = [.int .i64 k, .string s, .int .i64 n, .int .i64 l, .int .i64 o, .slice A1 n1 c1, .slice A2 n2 c2, .slice A3 n3 c3] := by
  cases h with
  | mk h1 _ h2 h3 _ =>
    obtain ⟨A1, n1, c1, rfl⟩ := t_sl_shape h1
    obtain ⟨A2, n2, c2, rfl⟩ := t_sl_shape h2
    obtain ⟨A3, n3, c3, rfl⟩ := t_sl_shape h3
    exact ⟨_, _, _, _, _, _, _, _, _, _, _, _, _, _, rfl⟩
theorem t_part {xs ys : List Value} {n m : Nat} (h : (xs.drop n).take m = ys) {j : Nat} (hj : j < m) : xs[n + j]? = ys[j]? := by
  rw [← h, List.getElem?_take, if_pos hj, List.getElem?_drop]
theorem t_keep {W w' : World} {b i : Nat} {v : Value} (h : Below W.heap.size W w') (d : W.cell? ⟨b, i, none⟩ = some v) (hb : b < W.heap.size) : w'.cell? ⟨b, i, none⟩ = some v :=
  (h.cell (p := ⟨b, i, none⟩) hb).trans d
end Go.Proofs.YtbpedjkebemhnaaGreatDoor

/- Opening arguments: types and nodes that came in. -/
set_option linter.unusedVariables false
namespace Go.Proofs.YtbpedjkebemhnaaGreatDoor
open Go.ChangeShapes Go.WideShapes Go.ChangeAt Go.RowKit

/-- Cells, k of them an element, that read as a list. -/
inductive TRow {α : Type} (R : List Value → α → Prop) (k : Nat) : List Value → List α → Prop
  | nil : TRow R k [] []
  | cons {x y : List Value} {c : α} {l : List α} : x.length = k → R x c → TRow R k y l → TRow R k (x ++ y) (c :: l)
theorem TRow.snoc {α : Type} {R : List Value → α → Prop} {k : Nat} {z : List Value} {c : α} (hz : z.length = k) (hc : R z c) : ∀ {xs : List Value} {ys : List α}, TRow R k xs ys → TRow R k (xs ++ z) (ys ++ [c])
  | _, _, .nil => by have := TRow.cons (R := R) hz hc .nil; simpa using this
  | _, _, .cons h1 h2 h3 => by rw [List.append_assoc, List.cons_append]; exact .cons h1 h2 (TRow.snoc hz hc h3)
theorem TRow.len {α : Type} {R : List Value → α → Prop} {k : Nat} : ∀ {xs : List Value} {ys : List α}, TRow R k xs ys → xs.length = ys.length * k
  | _, _, .nil => by simp
  | _, _, .cons h1 h2 h3 => by rw [List.length_append, List.length_cons, h1, TRow.len h3, Nat.add_mul, Nat.one_mul, Nat.add_comm]
theorem TRow.all {α : Type} {R : List Value → α → Prop} {k : Nat} {S : α → Prop} (hS : ∀ z c, R z c → S c) : ∀ {xs : List Value} {ys : List α}, TRow R k xs ys → ∀ y ∈ ys, S y
  | _, _, .nil, y, hy => by cases hy
  | _, _, .cons h1 h2 h3, y, hy => by
    rcases List.mem_cons.1 hy with rfl | hy
    · exact hS _ _ h2
    · exact TRow.all hS h3 y hy
section
variable {H : Type} {enc : TypeId × Value → H} {P : Program} {W : World}
theorem open_row {α : Type} {t e : TypeId} {k : Nat} (ht : P.underlying t = some (.slice e)) (hc : P.cellsOf e = k) (hk : 0 < k) {fuel : Nat} {v : Value} {x : DataW H × List MemPlace} (h : DataW.trod enc P W 0 (fun _ => true) true fuel t [v] = some x)
    (R : List Value → α → Prop) (hel : ∀ n cs' x', n < fuel → DataW.trod enc P W 0 (fun _ => true) true n e cs' = some x' → cs'.length = k → ∃ y, R cs' y) :
    ∃ (xs : List Value) (ys : List α), Sl W W.heap.size k v xs ∧ TRow R k xs ys := by
  rcases DataW.trod_slice ht h with ⟨hcs, hx⟩ | ⟨a, len, cap, elems, rest, n, hf, hcs, hx, hb, hl, hm, hlen, hcell, _, _⟩
  · obtain rfl : v = .slice none 0 0 := by simpa using hcs
    exact ⟨[], [], Sl.nil _ _ _, .nil⟩
  · obtain rfl : v = .slice (some a) len cap := by simpa using hcs
    have hone : ∀ i, i < len → ∃ cs' y, W.cells? 0 (a.add (i * k)) k = some cs' ∧ R cs' y ∧ cs'.length = k := by
      intro i hi
      have h1 := hcell i hi
      rw [hc, List.getElem?_eq_getElem (by omega)] at h1
      obtain ⟨cs', h2, h3⟩ := Option.bind_eq_some_iff.1 h1
      have hcl := (World.cells?_some h2).2.1
      obtain ⟨y, hy1⟩ := hel n cs' _ (by omega) h3 hcl
      exact ⟨cs', y, h2, hy1, hcl⟩
    have hall : ∀ m, m ≤ len → ∃ (xs : List Value) (ys : List α), TRow R k xs ys ∧ ys.length = m ∧ (∀ j u, xs[j]? = some u → W.cell? (a.add j) = some u) := by
      intro m
      induction m with
      | zero => exact fun _ => ⟨[], [], .nil, rfl, fun j u hu => by simp at hu⟩
      | succ m ih =>
        intro hm1
        obtain ⟨xs, ys, h1, h2, h3⟩ := ih (by omega)
        obtain ⟨cs', y, h5, h6, h7⟩ := hone m (by omega)
        have hxl : xs.length = m * k := by rw [h1.len, h2]
        refine ⟨xs ++ cs', ys ++ [y], h1.snoc h7 h6, by rw [List.length_append, h2]; rfl, fun j u hu => ?_⟩
        rcases Nat.lt_or_ge j xs.length with hj | hj
        · rw [List.getElem?_append_left hj] at hu
          exact h3 j u hu
        · rw [List.getElem?_append_right hj] at hu
          have hjk : j - xs.length < k := by
            rcases Nat.lt_or_ge (j - xs.length) k with hlt | hge
            · exact hlt
            · rw [List.getElem?_eq_none (by omega)] at hu; cases hu
          have h9 := (World.cells?_some h5).2.2 (j - xs.length) hjk
          rw [hu] at h9
          have hadd : (a.add (m * k)).add (j - xs.length) = a.add j := by
            rw [Deep.add_add, ← hxl]; congr 1; omega
          rw [hadd] at h9
          exact h9
    obtain ⟨xs, ys, h1, h2, h3⟩ := hall len (Nat.le_refl _)
    have hxl : xs.length = len * k := by rw [h1.len, h2]
    refine ⟨xs, ys, ⟨some a, len, cap, rfl, hxl, hl, hm, fun h0 => ?_⟩, h1⟩
    have hp : 0 < xs.length := by rw [hxl]; exact Nat.mul_pos h0 hk
    have h5 := h3 0 xs[0] (by simp [hp])
    obtain ⟨b, off, spot⟩ := a
    have hspot : spot = none := by simpa [Addr.add] using World.cell?_spot h5
    subst hspot
    refine ⟨b, off, rfl, ?_, fun j u hu => ?_⟩
    · rw [plain_add] at h5
      exact World.block_lt_of_cell? W _ h5
    · have := h3 j u hu
      rw [plain_add] at this
      exact this
end
mutual
/-- Numbers and texts that are no longer than any. -/
def okT : TyD → Prop
  | .mk k nm ns ks => In64 k ∧ nm.length ≤ maxLen ∧ (∀ x ∈ ns, x.length ≤ maxLen) ∧ okTs ks
def okTs : List TyD → Prop
  | [] => True
  | t :: l => okT t ∧ okTs l
end
theorem okTs_mem : ∀ {l : List TyD}, okTs l ↔ ∀ x ∈ l, okT x
  | [] => by simp [okTs]
  | c :: l => by
    rw [okTs, okTs_mem (l := l)]
    simp
mutual
def okN : NoD → Prop
  | .mk k text n line col ts ns ks => In64 k ∧ text.length ≤ maxLen ∧ In64 n ∧ In64 line ∧ In64 col ∧ (∀ x ∈ ts, okT x) ∧ (∀ x ∈ ns, x.length ≤ maxLen) ∧ okNs ks
def okNs : List NoD → Prop
  | [] => True
  | t :: l => okN t ∧ okNs l
end
theorem okNs_mem : ∀ {l : List NoD}, okNs l ↔ ∀ x ∈ l, okN x
  | [] => by simp [okNs]
  | c :: l => by
    rw [okNs, okNs_mem (l := l)]
    simp
section
variable {H : Type} {enc : TypeId × Value → H} {W : World}
theorem row_txts {xs : List Value} {ys : List Bt} (h : TRow (fun cs y => cs = [sv y] ∧ y.length ≤ maxLen) 1 xs ys) : xs = svs ys ∧ ∀ y ∈ ys, y.length ≤ maxLen := by
  refine ⟨?_, h.all (S := fun y => y.length ≤ maxLen) fun _ _ h => h.2⟩
  induction h with
  | nil => rfl
  | cons h1 h2 h3 ih => rw [ih, h2.1]; rfl
theorem row_tys {xs : List Value} {ys : List TyD} (h : TRow (fun cs y => TyR W W.heap.size cs y ∧ okT y) 4 xs ys) : TysR W W.heap.size xs ys ∧ ∀ y ∈ ys, okT y := by
  refine ⟨?_, h.all (S := okT) fun _ _ h => h.2⟩
  induction h with
  | nil => exact .nil
  | cons h1 h2 h3 ih => exact .cons h2.1 ih
theorem row_nos {xs : List Value} {ys : List NoD} (h : TRow (fun cs y => NoR W W.heap.size cs y ∧ okN y) 8 xs ys) : NosR W W.heap.size xs ys ∧ ∀ y ∈ ys, okN y := by
  refine ⟨?_, h.all (S := okN) fun _ _ h => h.2⟩
  induction h with
  | nil => exact .nil
  | cons h1 h2 h3 ih => exact .cons h2.1 ih
theorem t_in {fuel : Nat} {u : Value} {x : DataW H × List MemPlace} (h : DataW.trod enc Tryz.prog W 0 (fun _ => true) true fuel 3 [u] = some x) : ∃ y, u = .int .i64 y ∧ In64 y := by
  obtain ⟨n, hn, rfl, hw⟩ := DataW.trod_int Tryz.underlying3 h
  exact ⟨n, by simpa using hn, wf_in64 hw⟩
theorem t_tx {fuel : Nat} {u : Value} {x : DataW H × List MemPlace} (h : DataW.trod enc Tryz.prog W 0 (fun _ => true) true fuel 9 [u] = some x) : ∃ y : Bt, u = sv y ∧ y.length ≤ maxLen := by
  obtain ⟨s, hs, rfl, hm⟩ := DataW.trod_string Tryz.underlying9 h
  have e : s.data.toList.length = s.size := Array.length_toList
  have hu : u = .string s := by simpa using hs
  exact ⟨s.data.toList, by rw [hu, sv_of], by rw [e]; exact hm⟩
theorem t_texts {fuel : Nat} {v : Value} {x : DataW H × List MemPlace} (h : DataW.trod enc Tryz.prog W 0 (fun _ => true) true fuel 23 [v] = some x) : ∃ y, Ss W W.heap.size v y ∧ ∀ z ∈ y, z.length ≤ maxLen := by
  obtain ⟨xs, ys, h1, h2⟩ := open_row Tryz.underlying23 (k := 1) (by kernel_rfl) (by omega) h (fun cs y => cs = [sv y] ∧ y.length ≤ maxLen) (fun n cs' x' _ ht hl => by
    match cs', hl with
    | [u], _ =>
      obtain ⟨y, rfl, hy⟩ := t_tx ht
      exact ⟨y, rfl, hy⟩)
  obtain ⟨rfl, h4⟩ := row_txts h2
  exact ⟨ys, h1, h4⟩
set_option maxRecDepth 100000 in
theorem open_ty : ∀ (fuel : Nat) (cs : List Value) (x : DataW H × List MemPlace), DataW.trod enc Tryz.prog W 0 (fun _ => true) true fuel 32 cs = some x → ∃ y, TyR W W.heap.size cs y ∧ okT y := by
  intro fuel
  induction fuel using Nat.strongRecOn with
  | _ fuel ih =>
    intro cs x h
    obtain ⟨xs, n, hn, rfl, hl, hlen, hf⟩ := DataW.trod_struct Tryz.underlying32 h
    rw [show Tryz.prog.cellsOf 32 = 4 by kernel_rfl] at hl
    match cs, hl, xs, hlen with
    | [u0, u1, u2, u3], _, [y0, y1, y2, y3], _ =>
      have t0 : DataW.trod enc Tryz.prog W 0 (fun _ => true) true n 3 [u0] = some y0 := hf 0 _ rfl
      have t1 : DataW.trod enc Tryz.prog W 0 (fun _ => true) true n 9 [u1] = some y1 := hf 1 _ rfl
      have t2 : DataW.trod enc Tryz.prog W 0 (fun _ => true) true n 23 [u2] = some y2 := hf 2 _ rfl
      have t3 : DataW.trod enc Tryz.prog W 0 (fun _ => true) true n 22 [u3] = some y3 := hf 3 _ rfl
      obtain ⟨k, rfl, hk⟩ := t_in t0
      obtain ⟨nm, rfl, hnm⟩ := t_tx t1
      obtain ⟨ns, r2, o2⟩ := t_texts t2
      obtain ⟨zk, ks, f1, f2⟩ := open_row Tryz.underlying22 (k := 4) (by kernel_rfl) (by omega) t3 (fun cs y => TyR W W.heap.size cs y ∧ okT y) (fun m cs' x' hm ht _ => ih m (by omega) cs' x' ht)
      obtain ⟨g1, g2⟩ := row_tys f2
      refine ⟨.mk k nm ns ks, .mk r2 f1 g1, ?_⟩
      rw [okT]
      exact ⟨hk, hnm, o2, okTs_mem.2 g2⟩
set_option maxRecDepth 100000 in
theorem open_no : ∀ (fuel : Nat) (cs : List Value) (x : DataW H × List MemPlace), DataW.trod enc Tryz.prog W 0 (fun _ => true) true fuel 26 cs = some x → ∃ y, NoR W W.heap.size cs y ∧ okN y := by
  intro fuel
  induction fuel using Nat.strongRecOn with
  | _ fuel ih =>
    intro cs x h
    obtain ⟨xs, n, hn, rfl, hl, hlen, hf⟩ := DataW.trod_struct Tryz.underlying26 h
    rw [show Tryz.prog.cellsOf 26 = 8 by kernel_rfl] at hl
    match cs, hl, xs, hlen with
    | [u0, u1, u2, u3, u4, u5, u6, u7], _, [y0, y1, y2, y3, y4, y5, y6, y7], _ =>
      have t0 : DataW.trod enc Tryz.prog W 0 (fun _ => true) true n 3 [u0] = some y0 := hf 0 _ rfl
      have t1 : DataW.trod enc Tryz.prog W 0 (fun _ => true) true n 9 [u1] = some y1 := hf 1 _ rfl
      have t2 : DataW.trod enc Tryz.prog W 0 (fun _ => true) true n 3 [u2] = some y2 := hf 2 _ rfl
      have t3 : DataW.trod enc Tryz.prog W 0 (fun _ => true) true n 3 [u3] = some y3 := hf 3 _ rfl
      have t4 : DataW.trod enc Tryz.prog W 0 (fun _ => true) true n 3 [u4] = some y4 := hf 4 _ rfl
      have t5 : DataW.trod enc Tryz.prog W 0 (fun _ => true) true n 22 [u5] = some y5 := hf 5 _ rfl
      have t6 : DataW.trod enc Tryz.prog W 0 (fun _ => true) true n 23 [u6] = some y6 := hf 6 _ rfl
      have t7 : DataW.trod enc Tryz.prog W 0 (fun _ => true) true n 24 [u7] = some y7 := hf 7 _ rfl
      obtain ⟨k, rfl, hk⟩ := t_in t0
      obtain ⟨tx, rfl, htx⟩ := t_tx t1
      obtain ⟨nn, rfl, hnn⟩ := t_in t2
      obtain ⟨ln, rfl, hln⟩ := t_in t3
      obtain ⟨cl, rfl, hcl⟩ := t_in t4
      obtain ⟨zt, ts, e1, e2⟩ := open_row Tryz.underlying22 (k := 4) (by kernel_rfl) (by omega) t5 (fun cs y => TyR W W.heap.size cs y ∧ okT y) (fun m cs' x' hm ht _ => open_ty m cs' x' ht)
      obtain ⟨d1, d2⟩ := row_tys e2
      obtain ⟨ns, r2, o2⟩ := t_texts t6
      obtain ⟨zk, ks, f1, f2⟩ := open_row Tryz.underlying24 (k := 8) (by kernel_rfl) (by omega) t7 (fun cs y => NoR W W.heap.size cs y ∧ okN y) (fun m cs' x' hm ht _ => ih m (by omega) cs' x' ht)
      obtain ⟨g1, g2⟩ := row_nos f2
      refine ⟨.mk k tx nn ln cl ts ns ks, .mk e1 d1 r2 f1 g1, ?_⟩
      rw [okN]
      exact ⟨hk, htx, hnn, hln, hcl, d2, o2, okNs_mem.2 g2⟩
/-- A struct that came in as an argument: its cells. -/
theorem agg_cells {t : TypeId} {v : Value} {d : DataW H} {p : List MemPlace} {k : Nat} (hk : 1 < k) (hu : ∃ fs, Tryz.prog.underlying t = some (.struct fs)) (hc : Tryz.prog.cellsOf t = k) (hd : DataW.Trod enc Tryz.prog W 0 (fun _ => true) true t v d p) : ∃ z : List Value, v = Value.agg z.toArray ∧ v.cells.toList = z := by
  obtain ⟨fuel, h⟩ := hd
  obtain ⟨fs, hu⟩ := hu
  obtain ⟨xs, n, _, _, hl, _⟩ := DataW.trod_struct hu h
  rw [hc] at hl
  cases v with
  | agg z => exact ⟨z.toList, by simp, rfl⟩
  | _ => simp [Value.cells] at hl; omega
theorem open_node {v : Value} {d : DataW H} {p : List MemPlace} (hd : DataW.Trod enc Tryz.prog W 0 (fun _ => true) true 26 v d p) : ∃ (z : List Value) (y : NoD), v = Value.agg z.toArray ∧ NoR W W.heap.size z y ∧ okN y := by
  obtain ⟨z, hv, hz⟩ := agg_cells (k := 8) (by omega) ⟨_, Tryz.underlying26⟩ (by kernel_rfl) hd
  obtain ⟨fuel, h⟩ := hd
  rw [hz] at h
  obtain ⟨y, h1, h2⟩ := open_no fuel z _ h
  exact ⟨z, y, hv, h1, h2⟩
end
end Go.Proofs.YtbpedjkebemhnaaGreatDoor
end
section
/- The contracts of library functions that this seat reaches, each an application of a theorem of the library at this translation. -/
namespace Go.Proofs
open Go.Shelf
def Tryz.lays156_ren : Go.Shelf.Ren := ⟨fun | 156 => 49 | 165 => 101 | 166 => 48 | 169 => 52 | 240 => 100 | 241 => 133 | 276 => 132 | 277 => 151 | n => n, fun | 31 => 23 | 9 => 9 | 3 => 3 | 4 => 4 | 0 => 0 | 20 => 20 | 72 => 76 | 76 => 79 | 70 => 73 | 37 => 74 | 75 => 78 | 127 => 129 | 164 => 151 | 5 => 5 | 80 => 84 | n => n, fun | n => n⟩
theorem Tryz.lays156 : Go.Proofs.Lays.n156 Tryz.prog Tryz.lays156_ren := {
  mixed := by kernel_rfl
  f156 := Tryz.func49.trans (congrArg some (by kernel_rfl))
  f165 := Tryz.func101.trans (congrArg some (by kernel_rfl))
  f166 := Tryz.func48.trans (congrArg some (by kernel_rfl))
  f169 := Tryz.func52.trans (congrArg some (by kernel_rfl))
  f240 := Tryz.func100.trans (congrArg some (by kernel_rfl))
  f241 := Tryz.func133.trans (congrArg some (by kernel_rfl))
  f276 := Tryz.func132.trans (congrArg some (by kernel_rfl))
  f277 := Tryz.func151.trans (congrArg some (by kernel_rfl))
  t0 := Tryz.underlying0
  a0 := Tryz.isAgg0
  z0 := Tryz.sizeOf0
  v0 := Tryz.zeroValue0
  t3 := Tryz.underlying3
  a3 := Tryz.isAgg3
  z3 := Tryz.sizeOf3
  v3 := Tryz.zeroValue3
  t4 := Tryz.underlying4
  a4 := Tryz.isAgg4
  z4 := Tryz.sizeOf4
  v4 := Tryz.zeroValue4
  t9 := Tryz.underlying9
  a9 := Tryz.isAgg9
  z9 := Tryz.sizeOf9
  v9 := Tryz.zeroValue9
  t20 := Tryz.underlying20
  a20 := Tryz.isAgg20
  z20 := Tryz.sizeOf20
  v20 := Tryz.zeroValue20
  t31 := Tryz.underlying23
  a31 := Tryz.isAgg23
  z31 := Tryz.sizeOf23
  v31 := Tryz.zeroValue23
  t37 := Tryz.underlying74
  a37 := Tryz.isAgg74
  z37 := Tryz.sizeOf74
  v37 := Tryz.zeroValue74
  t70 := Tryz.underlying73
  a70 := Tryz.isAgg73
  z70 := Tryz.sizeOf73
  v70 := Tryz.zeroValue73
  t72 := Tryz.underlying76
  a72 := Tryz.isAgg76
  z72 := Tryz.sizeOf76
  v72 := Tryz.zeroValue76
  t75 := Tryz.underlying78
  a75 := Tryz.isAgg78
  z75 := Tryz.sizeOf78
  v75 := Tryz.zeroValue78
  t76 := Tryz.underlying79
  a76 := Tryz.isAgg79
  z76 := Tryz.sizeOf79
  v76 := Tryz.zeroValue79
  t127 := Tryz.underlying129
  a127 := Tryz.isAgg129
  z127 := Tryz.sizeOf129
  v127 := Tryz.zeroValue129
  t164 := Tryz.underlying151
  a164 := Tryz.isAgg151
  z164 := Tryz.sizeOf151
  v164 := Tryz.zeroValue151 }
theorem Tryz.Builder_Extra_156 : Builder.Extra Tryz.prog Tryz.lays156_ren := {
  sizeBuilder := by kernel_rfl
  liesBuilder := by kernel_rfl
  t5 := Tryz.underlying5
  a5 := Tryz.isAgg5
  z5 := Tryz.sizeOf5
  v5 := Tryz.zeroValue5
  infoByte := by kernel_rfl
  cellsByte := by kernel_rfl
  sizeByte := by kernel_rfl
  neB5 := by decide }
open Go.RowKit in
theorem Tryz.strings_Join_none (a : Option Addr) (c : Nat) (sep : ByteArray) (w : World) :
    Calls Tryz.prog 49 #[.slice a 0 c, .string sep] w fun e w' => e = .returned (.string ⟨#[]⟩) ∧ w' = w := Any.strings_Join_none Tryz.lays156 Tryz.Builder_Extra_156 a c sep w
open Go.RowKit in
theorem Tryz.strings_Join (bk o c : Nat) (xs : List ByteArray) (sep : ByteArray) (w : World) (hcells : ∀ (j : Nat) x, xs[j]? = some x → w.cell? ⟨bk, o + j, none⟩ = some (.string x)) (hbk : bk < w.heap.size) (hN : xs.length ≤ 140737488355328) (hcap : xs.length ≤ c) (hlen : (Lib.join (xs.map (·.data.toList)) sep.data.toList).length ≤ 140737488355328) :
    Calls Tryz.prog 49 #[.slice (some ⟨bk, o, none⟩) xs.length c, .string sep] w fun e w' => e = .returned (.string ⟨(Lib.join (xs.map (·.data.toList)) sep.data.toList).toArray⟩) ∧ Below w.heap.size w w' := Any.strings_Join Tryz.lays156 Tryz.Builder_Extra_156 bk o c xs sep w hcells hbk hN hcap hlen
def Tryz.lays137_ren : Go.Shelf.Ren := ⟨fun | 137 => 136 | 217 => 153 | 266 => 163 | n => n, fun | 9 => 9 | 5 => 5 | 3 => 3 | n => n, fun | n => n⟩
theorem Tryz.lays137 : Go.Proofs.Lays.n137 Tryz.prog Tryz.lays137_ren := {
  mixed := by kernel_rfl
  f137 := Tryz.func136.trans (congrArg some (by kernel_rfl))
  f217 := Tryz.func153.trans (congrArg some (by kernel_rfl))
  f266 := Tryz.func163.trans (congrArg some (by kernel_rfl))
  t3 := Tryz.underlying3
  a3 := Tryz.isAgg3
  z3 := Tryz.sizeOf3
  v3 := Tryz.zeroValue3
  t5 := Tryz.underlying5
  a5 := Tryz.isAgg5
  z5 := Tryz.sizeOf5
  v5 := Tryz.zeroValue5
  t9 := Tryz.underlying9
  a9 := Tryz.isAgg9
  z9 := Tryz.sizeOf9
  v9 := Tryz.zeroValue9 }
open Go.RowKit in
theorem Tryz.strings_IndexByte (s : ByteArray) (c : Int) (w : World) :
    Calls Tryz.prog 136 #[.string s, .int .u8 c] w fun e w' => e = .returned (.int .i64 (Lib.indexByte s.data.toList c.toNat.toUInt8)) ∧ w' = w := Any.strings_IndexByte Tryz.lays137 s c w
def Tryz.laysM171_ren : Go.Shelf.Ren := ⟨fun | 171 => 144 | 243 => 158 | 246 => 175 | 283 => 189 | 284 => 190 | 285 => 191 | 286 => 192 | 129 => 173 | 317 => 203 | 318 => 204 | 319 => 205 | 320 => 206 | 337 => 215 | 338 => 216 | n => n, fun | 3 => 3 | 9 => 9 | 2 => 2 | 4 => 4 | 171 => 230 | 0 => 0 | 53 => 213 | 37 => 74 | 5 => 5 | 173 => 232 | 212 => 258 | 51 => 146 | 20 => 20 | 213 => 259 | 46 => 130 | 232 => 289 | 233 => 290 | n => n, fun | 17 => 5 | 18 => 6 | 19 => 7 | n => n⟩
theorem Tryz.laysM171 : Go.Proofs.LaysM.n171 Tryz.prog Tryz.laysM171_ren := {
  mixed := by kernel_rfl
  f129 := Tryz.func173.trans (congrArg some (by kernel_rfl))
  f171 := Tryz.func144.trans (congrArg some (by kernel_rfl))
  f243 := Tryz.func158.trans (congrArg some (by kernel_rfl))
  f246 := Tryz.func175.trans (congrArg some (by kernel_rfl))
  f283 := Tryz.func189.trans (congrArg some (by kernel_rfl))
  f284 := Tryz.func190.trans (congrArg some (by kernel_rfl))
  f285 := Tryz.func191.trans (congrArg some (by kernel_rfl))
  f286 := Tryz.func192.trans (congrArg some (by kernel_rfl))
  f317 := Tryz.func203.trans (congrArg some (by kernel_rfl))
  f318 := Tryz.func204.trans (congrArg some (by kernel_rfl))
  f319 := Tryz.func205.trans (congrArg some (by kernel_rfl))
  f320 := Tryz.func206.trans (congrArg some (by kernel_rfl))
  f337 := Tryz.func215.trans (congrArg some (by kernel_rfl))
  f338 := Tryz.func216.trans (congrArg some (by kernel_rfl))
  t0 := Tryz.underlying0
  a0 := Tryz.isAgg0
  z0 := Tryz.sizeOf0
  v0 := Tryz.zeroValue0
  t2 := Tryz.underlying2
  a2 := Tryz.isAgg2
  z2 := Tryz.sizeOf2
  v2 := Tryz.zeroValue2
  t3 := Tryz.underlying3
  a3 := Tryz.isAgg3
  z3 := Tryz.sizeOf3
  v3 := Tryz.zeroValue3
  t4 := Tryz.underlying4
  a4 := Tryz.isAgg4
  z4 := Tryz.sizeOf4
  v4 := Tryz.zeroValue4
  t5 := Tryz.underlying5
  a5 := Tryz.isAgg5
  z5 := Tryz.sizeOf5
  v5 := Tryz.zeroValue5
  t9 := Tryz.underlying9
  a9 := Tryz.isAgg9
  z9 := Tryz.sizeOf9
  v9 := Tryz.zeroValue9
  t20 := Tryz.underlying20
  a20 := Tryz.isAgg20
  z20 := Tryz.sizeOf20
  v20 := Tryz.zeroValue20
  t37 := Tryz.underlying74
  a37 := Tryz.isAgg74
  z37 := Tryz.sizeOf74
  v37 := Tryz.zeroValue74
  t46 := Tryz.underlying130
  a46 := Tryz.isAgg130
  z46 := Tryz.sizeOf130
  v46 := Tryz.zeroValue130
  t51 := Tryz.underlying146
  a51 := Tryz.isAgg146
  z51 := Tryz.sizeOf146
  v51 := Tryz.zeroValue146
  t53 := Tryz.underlying213
  a53 := Tryz.isAgg213
  z53 := Tryz.sizeOf213
  v53 := Tryz.zeroValue213
  t171 := Tryz.underlying230
  a171 := Tryz.isAgg230
  z171 := Tryz.sizeOf230
  v171 := Tryz.zeroValue230
  t173 := Tryz.underlying232
  a173 := Tryz.isAgg232
  z173 := Tryz.sizeOf232
  v173 := Tryz.zeroValue232
  t212 := Tryz.underlying258
  a212 := Tryz.isAgg258
  z212 := Tryz.sizeOf258
  v212 := Tryz.zeroValue258
  t213 := Tryz.underlying259
  a213 := Tryz.isAgg259
  z213 := Tryz.sizeOf259
  t232 := Tryz.underlying289
  a232 := Tryz.isAgg289
  z232 := Tryz.sizeOf289
  v232 := Tryz.zeroValue289
  t233 := Tryz.underlying290
  a233 := Tryz.isAgg290
  z233 := Tryz.sizeOf290
  v233 := Tryz.zeroValue290
  g17 := by kernel_rfl
  g18 := by kernel_rfl
  g19 := by kernel_rfl
  i0 := by kernel_rfl
  i2 := by kernel_rfl
  i3 := by kernel_rfl
  i4 := by kernel_rfl
  i5 := by kernel_rfl
  i9 := by kernel_rfl
  i20 := by kernel_rfl
  i37 := by kernel_rfl
  i46 := by kernel_rfl
  i51 := by kernel_rfl
  i53 := by kernel_rfl
  i171 := by kernel_rfl
  i173 := by kernel_rfl
  i212 := by kernel_rfl
  i232 := by kernel_rfl
  i233 := by kernel_rfl
  m17 := by kernel_rfl
  m18 := by kernel_rfl
  m19 := by kernel_rfl }
open Go.RowKit Go.Sort Go.Lib in
theorem Tryz.strconv_Itoa (n : Int) (h0 : -9223372036854775808 ≤ n) (h1 : n ≤ 9223372036854775807) (w : World) (htab : Lib.TabIs Tryz.prog w "internal/strconv.uint64pow10" .u64 Lib.pow10Tab) :
    Calls Tryz.prog 144 #[.int .i64 n] w fun e w' => e = .returned (.string ⟨(Lib.itoa n).toArray⟩) ∧ ∃ k os, w' = grow (w.drewN k) os := Any.strconv_Itoa Tryz.laysM171 n h0 h1 w htab
def Tryz.laysC172_ren : Go.Shelf.Ren := ⟨fun | 172 => 152 | 244 => 161 | 245 => 162 | 247 => 179 | 279 => 180 | 280 => 181 | 281 => 182 | 282 => 183 | 287 => 199 | 316 => 200 | 171 => 144 | 205 => 201 | 321 => 213 | 322 => 214 | 243 => 158 | 246 => 175 | 283 => 189 | 284 => 190 | 285 => 191 | 286 => 192 | 129 => 173 | 317 => 203 | 318 => 204 | 319 => 205 | 320 => 206 | 337 => 215 | 338 => 216 | n => n, fun | 9 => 9 | 3 => 3 | 75 => 78 | 76 => 79 | 4 => 4 | 5 => 5 | 167 => 218 | 37 => 74 | 0 => 0 | 85 => 219 | 2 => 2 | 168 => 221 | 53 => 213 | 175 => 248 | 46 => 130 | 210 => 251 | 127 => 129 | 145 => 278 | 143 => 276 | 21 => 21 | 171 => 230 | 173 => 232 | 212 => 258 | 51 => 146 | 20 => 20 | 213 => 259 | 232 => 289 | 233 => 290 | 80 => 84 | n => n, fun | 15 => 3 | 16 => 4 | 17 => 5 | 18 => 6 | 19 => 7 | n => n⟩
theorem Tryz.laysC172 : Go.Proofs.LaysC.n172 Tryz.prog Tryz.laysC172_ren := {
  mixed := by kernel_rfl
  f129 := Tryz.func173.trans (congrArg some (by kernel_rfl))
  f171 := Tryz.func144.trans (congrArg some (by kernel_rfl))
  f172 := Tryz.func152.trans (congrArg some (by kernel_rfl))
  f205 := Tryz.func201.trans (congrArg some (by kernel_rfl))
  f243 := Tryz.func158.trans (congrArg some (by kernel_rfl))
  f244 := Tryz.func161.trans (congrArg some (by kernel_rfl))
  f245 := Tryz.func162.trans (congrArg some (by kernel_rfl))
  f246 := Tryz.func175.trans (congrArg some (by kernel_rfl))
  f247 := Tryz.func179.trans (congrArg some (by kernel_rfl))
  f279 := Tryz.func180.trans (congrArg some (by kernel_rfl))
  f280 := Tryz.func181.trans (congrArg some (by kernel_rfl))
  f281 := Tryz.func182.trans (congrArg some (by kernel_rfl))
  f282 := Tryz.func183.trans (congrArg some (by kernel_rfl))
  f283 := Tryz.func189.trans (congrArg some (by kernel_rfl))
  f284 := Tryz.func190.trans (congrArg some (by kernel_rfl))
  f285 := Tryz.func191.trans (congrArg some (by kernel_rfl))
  f286 := Tryz.func192.trans (congrArg some (by kernel_rfl))
  f287 := Tryz.func199.trans (congrArg some (by kernel_rfl))
  f316 := Tryz.func200.trans (congrArg some (by kernel_rfl))
  f317 := Tryz.func203.trans (congrArg some (by kernel_rfl))
  f318 := Tryz.func204.trans (congrArg some (by kernel_rfl))
  f319 := Tryz.func205.trans (congrArg some (by kernel_rfl))
  f320 := Tryz.func206.trans (congrArg some (by kernel_rfl))
  f321 := Tryz.func213.trans (congrArg some (by kernel_rfl))
  f322 := Tryz.func214.trans (congrArg some (by kernel_rfl))
  f337 := Tryz.func215.trans (congrArg some (by kernel_rfl))
  f338 := Tryz.func216.trans (congrArg some (by kernel_rfl))
  t0 := Tryz.underlying0
  a0 := Tryz.isAgg0
  z0 := Tryz.sizeOf0
  v0 := Tryz.zeroValue0
  t2 := Tryz.underlying2
  a2 := Tryz.isAgg2
  z2 := Tryz.sizeOf2
  v2 := Tryz.zeroValue2
  t3 := Tryz.underlying3
  a3 := Tryz.isAgg3
  z3 := Tryz.sizeOf3
  v3 := Tryz.zeroValue3
  t4 := Tryz.underlying4
  a4 := Tryz.isAgg4
  z4 := Tryz.sizeOf4
  v4 := Tryz.zeroValue4
  t5 := Tryz.underlying5
  a5 := Tryz.isAgg5
  z5 := Tryz.sizeOf5
  v5 := Tryz.zeroValue5
  t9 := Tryz.underlying9
  a9 := Tryz.isAgg9
  z9 := Tryz.sizeOf9
  v9 := Tryz.zeroValue9
  t20 := Tryz.underlying20
  a20 := Tryz.isAgg20
  z20 := Tryz.sizeOf20
  v20 := Tryz.zeroValue20
  t21 := Tryz.underlying21
  a21 := Tryz.isAgg21
  z21 := Tryz.sizeOf21
  v21 := Tryz.zeroValue21
  t37 := Tryz.underlying74
  a37 := Tryz.isAgg74
  z37 := Tryz.sizeOf74
  v37 := Tryz.zeroValue74
  t46 := Tryz.underlying130
  a46 := Tryz.isAgg130
  z46 := Tryz.sizeOf130
  v46 := Tryz.zeroValue130
  t51 := Tryz.underlying146
  a51 := Tryz.isAgg146
  z51 := Tryz.sizeOf146
  v51 := Tryz.zeroValue146
  t53 := Tryz.underlying213
  a53 := Tryz.isAgg213
  z53 := Tryz.sizeOf213
  v53 := Tryz.zeroValue213
  t75 := Tryz.underlying78
  a75 := Tryz.isAgg78
  z75 := Tryz.sizeOf78
  v75 := Tryz.zeroValue78
  t76 := Tryz.underlying79
  a76 := Tryz.isAgg79
  z76 := Tryz.sizeOf79
  v76 := Tryz.zeroValue79
  t85 := Tryz.underlying219
  a85 := Tryz.isAgg219
  z85 := Tryz.sizeOf219
  v85 := Tryz.zeroValue219
  t127 := Tryz.underlying129
  a127 := Tryz.isAgg129
  z127 := Tryz.sizeOf129
  v127 := Tryz.zeroValue129
  t143 := Tryz.underlying276
  a143 := Tryz.isAgg276
  z143 := Tryz.sizeOf276
  v143 := Tryz.zeroValue276
  t145 := Tryz.underlying278
  a145 := Tryz.isAgg278
  z145 := Tryz.sizeOf278
  v145 := Tryz.zeroValue278
  t167 := Tryz.underlying218
  a167 := Tryz.isAgg218
  z167 := Tryz.sizeOf218
  v167 := Tryz.zeroValue218
  t168 := Tryz.underlying221
  a168 := Tryz.isAgg221
  z168 := Tryz.sizeOf221
  v168 := Tryz.zeroValue221
  t171 := Tryz.underlying230
  a171 := Tryz.isAgg230
  z171 := Tryz.sizeOf230
  v171 := Tryz.zeroValue230
  t173 := Tryz.underlying232
  a173 := Tryz.isAgg232
  z173 := Tryz.sizeOf232
  v173 := Tryz.zeroValue232
  t175 := Tryz.underlying248
  a175 := Tryz.isAgg248
  z175 := Tryz.sizeOf248
  v175 := Tryz.zeroValue248
  t210 := Tryz.underlying251
  a210 := Tryz.isAgg251
  z210 := Tryz.sizeOf251
  v210 := Tryz.zeroValue251
  t212 := Tryz.underlying258
  a212 := Tryz.isAgg258
  z212 := Tryz.sizeOf258
  v212 := Tryz.zeroValue258
  t213 := Tryz.underlying259
  a213 := Tryz.isAgg259
  z213 := Tryz.sizeOf259
  t232 := Tryz.underlying289
  a232 := Tryz.isAgg289
  z232 := Tryz.sizeOf289
  v232 := Tryz.zeroValue289
  t233 := Tryz.underlying290
  a233 := Tryz.isAgg290
  z233 := Tryz.sizeOf290
  v233 := Tryz.zeroValue290
  g15 := by kernel_rfl
  g16 := by kernel_rfl
  g17 := by kernel_rfl
  g18 := by kernel_rfl
  g19 := by kernel_rfl
  t80 := Tryz.underlying84
  a80 := Tryz.isAgg84
  z80 := Tryz.sizeOf84
  v80 := Tryz.zeroValue84
  i0 := by kernel_rfl
  i2 := by kernel_rfl
  i3 := by kernel_rfl
  i4 := by kernel_rfl
  i5 := by kernel_rfl
  i9 := by kernel_rfl
  i20 := by kernel_rfl
  i21 := by kernel_rfl
  i37 := by kernel_rfl
  i46 := by kernel_rfl
  i51 := by kernel_rfl
  i53 := by kernel_rfl
  i75 := by kernel_rfl
  i76 := by kernel_rfl
  i80 := by kernel_rfl
  i85 := by kernel_rfl
  i127 := by kernel_rfl
  i143 := by kernel_rfl
  i145 := by kernel_rfl
  i167 := by kernel_rfl
  i168 := by kernel_rfl
  i171 := by kernel_rfl
  i173 := by kernel_rfl
  i175 := by kernel_rfl
  i210 := by kernel_rfl
  i212 := by kernel_rfl
  i232 := by kernel_rfl
  i233 := by kernel_rfl
  m15 := by kernel_rfl
  m16 := by kernel_rfl
  m17 := by kernel_rfl
  m18 := by kernel_rfl
  m19 := by kernel_rfl
  c0 := by kernel_rfl
  c2 := by kernel_rfl
  c3 := by kernel_rfl
  c4 := by kernel_rfl
  c5 := by kernel_rfl
  c9 := by kernel_rfl
  c20 := by kernel_rfl
  c21 := by kernel_rfl
  c37 := by kernel_rfl
  c46 := by kernel_rfl
  c51 := by kernel_rfl
  c53 := by kernel_rfl
  c75 := by kernel_rfl
  c76 := by kernel_rfl
  c80 := by kernel_rfl
  c85 := by kernel_rfl
  c127 := by kernel_rfl
  c143 := by kernel_rfl
  c145 := by kernel_rfl
  c167 := by kernel_rfl
  c168 := by kernel_rfl
  c171 := by kernel_rfl
  c173 := by kernel_rfl
  c175 := by kernel_rfl
  c210 := by kernel_rfl
  c212 := by kernel_rfl
  c213 := by kernel_rfl
  c232 := by kernel_rfl
  c233 := by kernel_rfl }
open Go.RowKit in
theorem Tryz.strconv_Atoi_ok (s : ByteArray) (hmax : s.size ≤ 9223372036854775806) (v : Int) (h : Lib.atoiAll s.data.toList = .ok v) (w : World) :
    Calls Tryz.prog 152 #[.string s] w fun e w' => e = .returned (.tuple #[.int .i64 v, .nilIface]) ∧ (w' = w ∨ ∃ t, w' = Lib.bytesWorld w 5 t) := Any.strconv_Atoi_ok Tryz.laysC172 s hmax v h w
open Go.RowKit in
theorem Tryz.strconv_Atoi_syntax_var (s : ByteArray) (hlim : s.size ≤ 281474976710656) (h : Lib.atoiAll s.data.toList = Lib.NumEnd.syntax) (tp : TypeId) (p : Value) (w : World) (hvar : w.var? Tryz.prog "strconv.ErrSyntax" = some #[.iface tp p]) :
    Calls Tryz.prog 152 #[.string s] w fun e w' => ∃ N, e = .returned (.tuple #[.int .i64 0, .iface 221 (.pointer (some ⟨N, 0, none⟩))]) ∧ w.heap.size ≤ N ∧ w'.heap[N]? = some (.cells #[.string ⟨#[65, 116, 111, 105]⟩, .string s, .iface tp p] 251 (0, 0)) ∧ Below w.heap.size w w' := Any.strconv_Atoi_syntax_var Tryz.laysC172 s hlim h tp p w hvar
open Go.RowKit in
theorem Tryz.strconv_Atoi_range_var (s : ByteArray) (hlim : s.size ≤ 281474976710656) (h : Lib.atoiAll s.data.toList = .range) (tp : TypeId) (p : Value) (w : World) (hvar : w.var? Tryz.prog "strconv.ErrRange" = some #[.iface tp p]) :
    Calls Tryz.prog 152 #[.string s] w fun e w' => ∃ N, e = .returned (.tuple #[.int .i64 (Lib.atoiSat s.data.toList), .iface 221 (.pointer (some ⟨N, 0, none⟩))]) ∧ w.heap.size ≤ N ∧ w'.heap[N]? = some (.cells #[.string ⟨#[65, 116, 111, 105]⟩, .string s, .iface tp p] 251 (0, 0)) ∧ Below w.heap.size w w' := Any.strconv_Atoi_range_var Tryz.laysC172 s hlim h tp p w hvar
def Tryz.lays138_ren : Go.Shelf.Ren := ⟨fun | 138 => 264 | 195 => 265 | 218 => 266 | 143 => 267 | 219 => 268 | 217 => 153 | 225 => 269 | 224 => 270 | 267 => 271 | 266 => 163 | 314 => 272 | n => n, fun | 9 => 9 | 3 => 3 | 4 => 4 | 5 => 5 | 0 => 0 | 46 => 130 | 146 => 322 | 51 => 146 | n => n, fun | 1 => 2 | n => n⟩
theorem Tryz.lays138 : Go.Proofs.Lays.n138 Tryz.prog Tryz.lays138_ren := {
  mixed := by kernel_rfl
  f138 := Tryz.func264.trans (congrArg some (by kernel_rfl))
  f143 := Tryz.func267.trans (congrArg some (by kernel_rfl))
  f195 := Tryz.func265.trans (congrArg some (by kernel_rfl))
  f217 := Tryz.func153.trans (congrArg some (by kernel_rfl))
  f218 := Tryz.func266.trans (congrArg some (by kernel_rfl))
  f219 := Tryz.func268.trans (congrArg some (by kernel_rfl))
  f224 := Tryz.func270.trans (congrArg some (by kernel_rfl))
  f225 := Tryz.func269.trans (congrArg some (by kernel_rfl))
  f266 := Tryz.func163.trans (congrArg some (by kernel_rfl))
  f267 := Tryz.func271.trans (congrArg some (by kernel_rfl))
  f314 := Tryz.func272.trans (congrArg some (by kernel_rfl))
  t0 := Tryz.underlying0
  a0 := Tryz.isAgg0
  z0 := Tryz.sizeOf0
  v0 := Tryz.zeroValue0
  t3 := Tryz.underlying3
  a3 := Tryz.isAgg3
  z3 := Tryz.sizeOf3
  v3 := Tryz.zeroValue3
  t4 := Tryz.underlying4
  a4 := Tryz.isAgg4
  z4 := Tryz.sizeOf4
  v4 := Tryz.zeroValue4
  t5 := Tryz.underlying5
  a5 := Tryz.isAgg5
  z5 := Tryz.sizeOf5
  v5 := Tryz.zeroValue5
  t9 := Tryz.underlying9
  a9 := Tryz.isAgg9
  z9 := Tryz.sizeOf9
  v9 := Tryz.zeroValue9
  t46 := Tryz.underlying130
  a46 := Tryz.isAgg130
  z46 := Tryz.sizeOf130
  v46 := Tryz.zeroValue130
  t51 := Tryz.underlying146
  a51 := Tryz.isAgg146
  z51 := Tryz.sizeOf146
  v51 := Tryz.zeroValue146
  t146 := Tryz.underlying322
  a146 := Tryz.isAgg322
  z146 := Tryz.sizeOf322
  v146 := Tryz.zeroValue322
  g1 := by kernel_rfl }
open Go.RowKit Go.Lib in
theorem Tryz.strings_Count_one (s : ByteArray) (c : UInt8) (w : World) :
    Calls Tryz.prog 264 #[.string s, .string ⟨#[c]⟩] w fun e w' => e = .returned (.int .i64 (Lib.countByte s.data.toList c)) ∧ w' = w := Any.strings_Count_one Tryz.lays138 s c w
def Tryz.lays157_ren : Go.Shelf.Ren := ⟨fun | 157 => 40 | 229 => 85 | 199 => 86 | 261 => 128 | 311 => 149 | 312 => 150 | n => n, fun | 9 => 9 | 31 => 23 | 3 => 3 | 5 => 5 | 4 => 4 | 119 => 120 | 0 => 0 | 40 => 122 | 152 => 143 | 21 => 21 | 154 => 145 | 51 => 146 | 141 => 148 | 196 => 173 | 193 => 170 | 198 => 176 | 49 => 174 | 194 => 171 | 201 => 179 | 226 => 201 | 46 => 130 | 227 => 202 | n => n, fun | 0 => 0 | 6 => 1 | n => n⟩
theorem Tryz.lays157 : Go.Proofs.Lays.n157 Tryz.prog Tryz.lays157_ren := {
  mixed := by kernel_rfl
  f157 := Tryz.func40.trans (congrArg some (by kernel_rfl))
  f199 := Tryz.func86.trans (congrArg some (by kernel_rfl))
  f229 := Tryz.func85.trans (congrArg some (by kernel_rfl))
  f261 := Tryz.func128.trans (congrArg some (by kernel_rfl))
  f311 := Tryz.func149.trans (congrArg some (by kernel_rfl))
  f312 := Tryz.func150.trans (congrArg some (by kernel_rfl))
  t0 := Tryz.underlying0
  a0 := Tryz.isAgg0
  z0 := Tryz.sizeOf0
  v0 := Tryz.zeroValue0
  t3 := Tryz.underlying3
  a3 := Tryz.isAgg3
  z3 := Tryz.sizeOf3
  v3 := Tryz.zeroValue3
  t4 := Tryz.underlying4
  a4 := Tryz.isAgg4
  z4 := Tryz.sizeOf4
  v4 := Tryz.zeroValue4
  t5 := Tryz.underlying5
  a5 := Tryz.isAgg5
  z5 := Tryz.sizeOf5
  v5 := Tryz.zeroValue5
  t9 := Tryz.underlying9
  a9 := Tryz.isAgg9
  z9 := Tryz.sizeOf9
  v9 := Tryz.zeroValue9
  t21 := Tryz.underlying21
  a21 := Tryz.isAgg21
  z21 := Tryz.sizeOf21
  v21 := Tryz.zeroValue21
  t31 := Tryz.underlying23
  a31 := Tryz.isAgg23
  z31 := Tryz.sizeOf23
  v31 := Tryz.zeroValue23
  t40 := Tryz.underlying122
  a40 := Tryz.isAgg122
  z40 := Tryz.sizeOf122
  v40 := Tryz.zeroValue122
  t46 := Tryz.underlying130
  a46 := Tryz.isAgg130
  z46 := Tryz.sizeOf130
  v46 := Tryz.zeroValue130
  t49 := Tryz.underlying174
  a49 := Tryz.isAgg174
  z49 := Tryz.sizeOf174
  v49 := Tryz.zeroValue174
  t51 := Tryz.underlying146
  a51 := Tryz.isAgg146
  z51 := Tryz.sizeOf146
  v51 := Tryz.zeroValue146
  t119 := Tryz.underlying120
  a119 := Tryz.isAgg120
  z119 := Tryz.sizeOf120
  t141 := Tryz.underlying148
  a141 := Tryz.isAgg148
  z141 := Tryz.sizeOf148
  v141 := Tryz.zeroValue148
  t152 := Tryz.underlying143
  a152 := Tryz.isAgg143
  z152 := Tryz.sizeOf143
  v152 := Tryz.zeroValue143
  t154 := Tryz.underlying145
  a154 := Tryz.isAgg145
  z154 := Tryz.sizeOf145
  v154 := Tryz.zeroValue145
  t193 := Tryz.underlying170
  a193 := Tryz.isAgg170
  z193 := Tryz.sizeOf170
  v193 := Tryz.zeroValue170
  t194 := Tryz.underlying171
  a194 := Tryz.isAgg171
  z194 := Tryz.sizeOf171
  v194 := Tryz.zeroValue171
  t196 := Tryz.underlying173
  a196 := Tryz.isAgg173
  z196 := Tryz.sizeOf173
  v196 := Tryz.zeroValue173
  t198 := Tryz.underlying176
  a198 := Tryz.isAgg176
  z198 := Tryz.sizeOf176
  v198 := Tryz.zeroValue176
  t201 := Tryz.underlying179
  a201 := Tryz.isAgg179
  z201 := Tryz.sizeOf179
  v201 := Tryz.zeroValue179
  t226 := Tryz.underlying201
  a226 := Tryz.isAgg201
  z226 := Tryz.sizeOf201
  v226 := Tryz.zeroValue201
  t227 := Tryz.underlying202
  a227 := Tryz.isAgg202
  z227 := Tryz.sizeOf202
  v227 := Tryz.zeroValue202
  g0 := by kernel_rfl
  g6 := by kernel_rfl }
open Go.RowKit Go.Lib in
theorem Tryz.strings_Fields (s : ByteArray) (w : World) (hs : s.size < 4294967281) (hascii : ∀ (j : Nat) b, s.data.toList[j]? = some b → b.toNat < 128) (htab : Lib.TabIs Tryz.prog w "strings.asciiSpace" .u8 Lib.asciiSpaceTab) :
    Calls Tryz.prog 40 #[.string s] w fun e w' =>
      e = .returned (.slice (some ⟨w.heap.size, 0, none⟩) (Lib.fields s.data.toList).length (Lib.fields s.data.toList).length) ∧ w' = w.alloc (.cells ((Lib.fields s.data.toList).map fun l => Value.string ⟨l.toArray⟩).toArray 9) := Any.strings_Fields Tryz.lays157 (by kernel_rfl) (by kernel_rfl) s w hs hascii htab
def Tryz.lays107_ren : Go.Shelf.Ren := ⟨fun | 107 => 127 | 108 => 148 | n => n, fun | 28 => 141 | 3 => 3 | 4 => 4 | 0 => 0 | n => n, fun | n => n⟩
theorem Tryz.lays107 : Go.Proofs.Lays.n107 Tryz.prog Tryz.lays107_ren := {
  mixed := by kernel_rfl
  f107 := Tryz.func127.trans (congrArg some (by kernel_rfl))
  f108 := Tryz.func148.trans (congrArg some (by kernel_rfl))
  t0 := Tryz.underlying0
  a0 := Tryz.isAgg0
  z0 := Tryz.sizeOf0
  v0 := Tryz.zeroValue0
  t3 := Tryz.underlying3
  a3 := Tryz.isAgg3
  z3 := Tryz.sizeOf3
  v3 := Tryz.zeroValue3
  t4 := Tryz.underlying4
  a4 := Tryz.isAgg4
  z4 := Tryz.sizeOf4
  v4 := Tryz.zeroValue4
  t28 := Tryz.underlying141
  a28 := Tryz.isAgg141
  z28 := Tryz.sizeOf141
  v28 := Tryz.zeroValue141 }
open Go.Lib in
theorem Tryz.slices_Contains_int (b off n c : Nat) (zs : List Int) (x : Int) (w : World) (hz : n ≤ zs.length) (hbig : n ≤ 9223372036854775807) (hc : ∀ j, j < zs.length → w.cell? ⟨b, off + j, none⟩ = some (.int .i64 (zs.getD j 0))) :
    Calls Tryz.prog 127 #[.slice (some ⟨b, off, none⟩) n c, .int .i64 x] w fun e w' => e = .returned (.bool ((zs.take n).contains x)) ∧ w' = w := Any.slices_Contains_int Tryz.lays107 b off n c zs x w hz hbig hc
end Go.Proofs
end
