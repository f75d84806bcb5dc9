/- GD, YA, YB, ZF, MC -/
import Derived.Test.YtbpedjkebemhnaaGreatDoorSD01
import Derived.Test.YtbpedjkebemhnaaGreatDoorProg
import Derived.Deep.Slices
import Derived.Lib.SmallJoins
import Derived.WalkKit
set_option linter.unusedSimpArgs false
set_option linter.unusedVariables false
section
/- Texts that belong together: TA, TB, TC. -/
/- Trees in plain Lean: types and expressions, which of them may be printed, and how. -/
set_option linter.unusedVariables false
namespace Go.Proofs.YtbpedjkebemhnaaGreatDoor

/-- A type. -/
inductive TyD where
  | mk (kind : Int) (name : Bt) (names : List Bt) (kids : List TyD) : TyD
/-- An expression. -/
inductive NoD where
  | mk (kind : Int) (text : Bt) (n line col : Int) (types : List TyD) (names : List Bt) (kids : List NoD) : NoD
def TyD.kind : TyD → Int | .mk k _ _ _ => k
def TyD.name : TyD → Bt | .mk _ n _ _ => n
def TyD.names : TyD → List Bt | .mk _ _ n _ => n
def TyD.kids : TyD → List TyD | .mk _ _ _ k => k

/-- Is a type's own part as its kind has it? -/
def kindT (k : Int) (nm : Bt) (ns ks : Nat) : Bool :=
  if k = 8 then ns + ks == 0 && nameL nm
  else if nm ≠ [] ∨ k < 0 ∨ 7 < k then false
  else if k = 5 then ns == ks
  else if k = 6 then ns == 0 && ks == 2
  else if k = 7 then ns == 0 && decide (2 ≤ ks)
  else ns + ks == 0
/-- Is a type a written one, of at most so many within one another? -/
def writtenB : Nat → TyD → Bool
  | 0, _ => false
  | m + 1, .mk k nm ns ks => ns.all nameL && ks.all (writtenB m) && kindT k nm ns.length ks.length
/-- Texts put together with one between. -/
def joinS (sep : Bt) : List Bt → Bt
  | [] => []
  | [x] => x
  | x :: y :: l => x ++ (sep ++ joinS sep (y :: l))
/-- In brackets, if its kind is one of these. -/
def innerS (kinds : List Int) (k : Int) (s : Bt) : Bt := if kinds.contains k then [40] ++ (s ++ [41]) else s
/-- A field: its name and what it is. -/
def fieldS (n s : Bt) : Bt := n ++ ([58, 32] ++ s)
mutual
/-- A written type as text. -/
def showT : TyD → Bt
  | .mk k nm ns ks =>
    if k = 0 then [97, 110, 121]
    else if k = 1 then [110, 117, 108, 108]
    else if k = 2 then [98, 111, 111, 108]
    else if k = 3 then [105, 110, 116]
    else if k = 4 then [115, 116, 114]
    else if k = 5 then [123] ++ (joinS [44, 32] (List.zipWith fieldS ns (showTs ks)) ++ [125])
    else if k = 6 then innerS [6] ((ks.map TyD.kind).getD 0 0) ((showTs ks).getD 0 []) ++ ([32, 45, 62, 32] ++ (showTs ks).getD 1 [])
    else if k = 7 then joinS [32, 124, 32] (List.zipWith (innerS [6, 7]) (ks.map TyD.kind) (showTs ks))
    else nm
def showTs : List TyD → List Bt
  | [] => []
  | t :: l => showT t :: showTs l
end
theorem showTs_map : ∀ l : List TyD, showTs l = l.map showT
  | [] => by simp [showTs]
  | t :: l => by simp [showTs, showTs_map l]
def typeS (t : TyD) : Bt := if writtenB 16 t then showT t else []
/-- A type behind a colon, if there is one. -/
def noteS (l : List TyD) (i : Nat) : Bt := match l[i]? with | some t => [58, 32] ++ showT t | none => []
/-- What a kind of node has: a name as text, the least and the most types, kids (none: as many as names), the most of N. -/
structure HasD where
  name : Bool
  low : Nat
  types : Nat
  kids : Int
  most : Int
def hasD (k : Int) : HasD :=
  if k = 0 then ⟨false, 0, 0, 0, 9223372036854775807⟩
  else if k = 2 then ⟨false, 0, 0, 0, 1⟩
  else if k = 4 then ⟨true, 0, 0, 0, 0⟩
  else if k = 5 then ⟨true, 0, 1, 2, 0⟩
  else if k = 6 then ⟨true, 1, 2, 1, 0⟩
  else if k = 7 then ⟨false, 0, 0, 2, 0⟩
  else if k = 8 then ⟨false, 0, 0, -1, 0⟩
  else if k = 9 then ⟨true, 0, 0, 1, 0⟩
  else if k = 10 then ⟨true, 0, 0, 2, 0⟩
  else if k = 11 then ⟨false, 0, 0, 3, 0⟩
  else if k = 12 then ⟨false, 0, 0, 1, 5⟩
  else if k = 13 then ⟨false, 1, 1, 1, 0⟩
  else if k = 14 then ⟨false, 0, 0, 2, 0⟩
  else if k = 15 ∨ k = 16 ∨ k = 17 then ⟨false, 0, 0, 1, 0⟩
  else if k = 19 then ⟨true, 1, 1048576, 0, 0⟩
  else ⟨false, 0, 0, 0, 0⟩
def opsL : List Bt := [[111, 114], [97, 110, 100], [60], [60, 61], [61, 61], [43, 43], [43], [45], [94], [42], [47], [37], [38], [60, 60], [62, 62]]
def strB (s : Bt) : Bool := decide (s.length ≤ 256) && s.all (fun c => !(decide (c < 32) && c != 9 && c != 10))
def textB (k : Int) (s : Bt) (named : Bool) : Bool :=
  if named then nameL s else if k = 1 then strB s else if k = 14 then opsL.contains s else s == []
/-- Is a node's own part as its kind has it? -/
def ownN (k : Int) (text : Bt) (n : Int) (types names kids : Nat) : Bool :=
  decide (0 ≤ n ∧ n ≤ (hasD k).most) && textB k text (hasD k).name && decide ((hasD k).low ≤ types ∧ types ≤ (hasD k).types) &&
    (if (hasD k).kids < 0 then kids == names else names == 0 && (kids : Int) == (hasD k).kids)
def nodeB : Nat → NoD → Bool
  | 0, _ => false
  | m + 1, .mk k text n _ _ types names kids =>
    decide (0 ≤ k ∧ k < 20) && ownN k text n types.length names.length kids.length && names.all nameL && types.all (writtenB 16) && kids.all (nodeB m)
def tagsL : List Bt := [[110, 117, 108, 108], [98, 111, 111, 108], [105, 110, 116], [115, 116, 114], [114, 101, 99, 111, 114, 100], [102, 117, 110, 99, 116, 105, 111, 110]]
def cat (l : List Bt) : Bt := l.flatMap id
/-- An expression without others in it as text. -/
def simpleS (k : Int) (text : Bt) (n : Int) (types : List TyD) : Bt :=
  if k = 0 then Lib.itoa n
  else if k = 1 then quoteW text
  else if k = 2 then (if n = 0 then [102, 97, 108, 115, 101] else [116, 114, 117, 101])
  else if k = 3 then [110, 117, 108, 108]
  else if k = 18 then [114, 101, 97, 100, 40, 41]
  else if k = 19 then cat [text, [91], joinS [44, 32] (types.map showT), [93]]
  else text
/-- A node as text: of its own part and what is within. -/
def nodeS (k : Int) (text : Bt) (n : Int) (types : List TyD) (names : List Bt) (s : List Bt) : Bt :=
  if k = 7 then cat [s.getD 0 [], [40], s.getD 1 [], [41]]
  else if k = 9 then cat [s.getD 0 [], [46], text]
  else if k = 10 then cat [[123], s.getD 0 [], [32, 119, 105, 116, 104, 32], text, [58, 32], s.getD 1 [], [125]]
  else if k = 8 then cat [[123], joinS [44, 32] (List.zipWith fieldS names s), [125]]
  else if k = 17 then cat [[112, 114, 105, 110, 116, 40], s.getD 0 [], [41]]
  else if k = 5 then cat [[40], [108, 101, 116, 32], text, noteS types 0, [32, 61, 32], s.getD 0 [], [59, 32], s.getD 1 [], [41]]
  else if k = 6 then cat [[40], [102, 110, 32, 40], text, noteS types 0, [41], noteS types 1, [32, 61, 62, 32], s.getD 0 [], [41]]
  else if k = 11 then cat [[40], [105, 102, 32], s.getD 0 [], [32, 116, 104, 101, 110, 32], s.getD 1 [], [32, 101, 108, 115, 101, 32], s.getD 2 [], [41]]
  else if k = 12 then cat [[40], s.getD 0 [], [32, 105, 115, 32], tagsL.getD n.toNat [], [41]]
  else if k = 13 then cat [[40], s.getD 0 [], [32, 97, 115, 32], (types.map showT).getD 0 [], [41]]
  else if k = 14 then cat [[40], s.getD 0 [], [32], text, [32], s.getD 1 [], [41]]
  else if k = 15 then cat [[40], [110, 111, 116, 32], s.getD 0 [], [41]]
  else if k = 16 then cat [[40], [45], s.getD 0 [], [41]]
  else simpleS k text n types
mutual
def exprS : NoD → Bt
  | .mk k text n _ _ types names kids => nodeS k text n types names (exprSs kids)
def exprSs : List NoD → List Bt
  | [] => []
  | x :: l => exprS x :: exprSs l
end
theorem exprSs_map : ∀ l : List NoD, exprSs l = l.map exprS
  | [] => by simp [exprSs]
  | t :: l => by simp [exprSs, exprSs_map l]
def exprT (x : NoD) : Bt := if nodeB 25 x then exprS x else []
end Go.Proofs.YtbpedjkebemhnaaGreatDoor

/- What types and nodes read as in memory. -/
set_option linter.unusedVariables false
namespace Go.Proofs.YtbpedjkebemhnaaGreatDoor
open Go.RowKit

theorem t_sl_shape {w : World} {B k : Nat} {v : Value} {xs : List Value} (h : Sl w B k v xs) : ∃ A n c, v = .slice A n c := by
  obtain ⟨A, n, c, hv, _⟩ := h
  exact ⟨A, n, c, hv⟩
theorem t_sl_len {w : World} {B k : Nat} {A : Option Addr} {n c : Nat} {xs : List Value} (h : Sl w B k (.slice A n c) xs) : xs.length = n * k ∧ n ≤ c ∧ c ≤ 2 ^ 63 - 1 := by
  obtain ⟨A', n', c', hv, hl, hn, hc, _⟩ := h
  injection hv with e1 e2 e3
  subst e1 e2 e3
  unfold maxLen at hc
  exact ⟨hl, hn, hc⟩
theorem t_sl_exact {w : World} {B k m : Nat} {v : Value} {xs : List Value} (h : Sl w B k v xs) (hk : 0 < k) (hm : xs.length = m * k) : ∃ A c, v = .slice A m c := by
  obtain ⟨A, n, c, rfl⟩ := t_sl_shape h
  have := (t_sl_len h).1
  rw [hm] at this
  obtain rfl : m = n := Nat.eq_of_mul_eq_mul_right hk this
  exact ⟨A, c, rfl⟩
/-- An element's cells. -/
theorem t_sl_in {w : World} {B k : Nat} {xs : List Value} {A : Option Addr} {n c : Nat} (h : Sl w B k (.slice A n c) xs) {i : Nat} (hi : i < n) (hk : 0 < k) :
    ∃ b off, A = some ⟨b, off, none⟩ ∧ b < B ∧ ∀ (j : Nat) u, xs[i * k + j]? = some u → w.cell? ⟨b, off + (i * k + j), none⟩ = some u := by
  obtain ⟨A', n', c', hv', hl, hn, hc, hx⟩ := h
  injection hv' with e1 e2 e3
  subst e1 e2 e3
  obtain ⟨b, off, hA, hbb, hcell⟩ := hx (by omega)
  exact ⟨b, off, hA, hbb, fun j u hu => hcell _ u hu⟩
mutual
/-- Four cells read as a type. -/
inductive TyR (w : World) (B : Nat) : List Value → TyD → Prop
  | mk {k : Int} {nm : Bt} {vn vk : Value} {ns : List Bt} {ks : List TyD} {xk : List Value} : Ss w B vn ns → Sl w B 4 vk xk → TysR w B xk ks → TyR w B [.int .i64 k, sv nm, vn, vk] (.mk k nm ns ks)
inductive TysR (w : World) (B : Nat) : List Value → List TyD → Prop
  | nil : TysR w B [] []
  | cons {x y : List Value} {c : TyD} {l : List TyD} : TyR w B x c → TysR w B y l → TysR w B (x ++ y) (c :: l)
end
mutual
/-- Eight cells read as a node. -/
inductive NoR (w : World) (B : Nat) : List Value → NoD → Prop
  | mk {k n line col : Int} {text : Bt} {vt vn vk : Value} {ts : List TyD} {xt : List Value} {ns : List Bt} {ks : List NoD} {xk : List Value} : Sl w B 4 vt xt → TysR w B xt ts → Ss w B vn ns → Sl w B 8 vk xk → NosR w B xk ks →
      NoR w B [.int .i64 k, sv text, .int .i64 n, .int .i64 line, .int .i64 col, vt, vn, vk] (.mk k text n line col ts ns ks)
inductive NosR (w : World) (B : Nat) : List Value → List NoD → Prop
  | nil : NosR w B [] []
  | cons {x y : List Value} {c : NoD} {l : List NoD} : NoR w B x c → NosR w B y l → NosR w B (x ++ y) (c :: l)
end
mutual
theorem TyR.keep {w w' : World} {B : Nat} {x : List Value} {c : TyD} (h : TyR w B x c) (hb : Below B w w') : TyR w' B x c :=
  match h with
  | .mk h1 h2 h3 => .mk (Sl.below h1 hb) (h2.below hb) (h3.keep hb)
theorem TysR.keep {w w' : World} {B : Nat} {x : List Value} {l : List TyD} (h : TysR w B x l) (hb : Below B w w') : TysR w' B x l :=
  match h with
  | .nil => .nil
  | .cons h1 h2 => .cons (h1.keep hb) (h2.keep hb)
end
mutual
theorem TyR.more {w : World} {B B' : Nat} {x : List Value} {c : TyD} (h : TyR w B x c) (hb : B ≤ B') : TyR w B' x c :=
  match h with
  | .mk h1 h2 h3 => .mk (Sl.more h1 hb) (h2.more hb) (h3.more hb)
theorem TysR.more {w : World} {B B' : Nat} {x : List Value} {l : List TyD} (h : TysR w B x l) (hb : B ≤ B') : TysR w B' x l :=
  match h with
  | .nil => .nil
  | .cons h1 h2 => .cons (h1.more hb) (h2.more hb)
end
theorem TyR.far {W w' : World} {B : Nat} {x : List Value} {c : TyD} (h : TyR W B x c) (hB : B ≤ W.heap.size) (hb : Below W.heap.size W w') : TyR w' w'.heap.size x c :=
  (h.keep (hb.mono hB)).more (Nat.le_trans hB hb.size)
theorem TysR.far {W w' : World} {B : Nat} {x : List Value} {c : List TyD} (h : TysR W B x c) (hB : B ≤ W.heap.size) (hb : Below W.heap.size W w') : TysR w' w'.heap.size x c :=
  (h.keep (hb.mono hB)).more (Nat.le_trans hB hb.size)
theorem TyR.len {w : World} {B : Nat} {x : List Value} {c : TyD} (h : TyR w B x c) : x.length = 4 := by
  cases h; rfl
theorem TysR.length {w : World} {B : Nat} : ∀ {x : List Value} {l : List TyD}, TysR w B x l → x.length = l.length * 4
  | _, _, .nil => rfl
  | _, _, .cons h1 h2 => by
    have := h1.len
    have := TysR.length h2
    rw [List.length_append, List.length_cons]; omega
theorem TysR.at {w : World} {B : Nat} : ∀ {x : List Value} {l : List TyD}, TysR w B x l → ∀ (i : Nat) (hi : i < l.length), TyR w B ((x.drop (i * 4)).take 4) l[i]
  | _, _, .nil, i, hi => by simp at hi
  | _, _, .cons (x := x) (y := y) h1 h2, i, hi => by
    have h5 := h1.len
    rcases i with _ | i
    · rw [Nat.zero_mul, List.drop_zero, ← h5, List.take_left]; exact h1
    · have : (x ++ y).drop ((i + 1) * 4) = y.drop (i * 4) := by
        rw [show (i + 1) * 4 = x.length + i * 4 by omega, ← List.drop_drop, List.drop_left]
      rw [this]
      exact TysR.at h2 i (by simpa using hi)
mutual
theorem NoR.keep {w w' : World} {B : Nat} {x : List Value} {c : NoD} (h : NoR w B x c) (hb : Below B w w') : NoR w' B x c :=
  match h with
  | .mk h1 h2 h3 h4 h5 => .mk (h1.below hb) (h2.keep hb) (Sl.below h3 hb) (h4.below hb) (h5.keep hb)
theorem NosR.keep {w w' : World} {B : Nat} {x : List Value} {l : List NoD} (h : NosR w B x l) (hb : Below B w w') : NosR w' B x l :=
  match h with
  | .nil => .nil
  | .cons h1 h2 => .cons (h1.keep hb) (h2.keep hb)
end
mutual
theorem NoR.more {w : World} {B B' : Nat} {x : List Value} {c : NoD} (h : NoR w B x c) (hb : B ≤ B') : NoR w B' x c :=
  match h with
  | .mk h1 h2 h3 h4 h5 => .mk (h1.more hb) (h2.more hb) (Sl.more h3 hb) (h4.more hb) (h5.more hb)
theorem NosR.more {w : World} {B B' : Nat} {x : List Value} {l : List NoD} (h : NosR w B x l) (hb : B ≤ B') : NosR w B' x l :=
  match h with
  | .nil => .nil
  | .cons h1 h2 => .cons (h1.more hb) (h2.more hb)
end
theorem NoR.far {W w' : World} {B : Nat} {x : List Value} {c : NoD} (h : NoR W B x c) (hB : B ≤ W.heap.size) (hb : Below W.heap.size W w') : NoR w' w'.heap.size x c :=
  (h.keep (hb.mono hB)).more (Nat.le_trans hB hb.size)
theorem NosR.far {W w' : World} {B : Nat} {x : List Value} {c : List NoD} (h : NosR W B x c) (hB : B ≤ W.heap.size) (hb : Below W.heap.size W w') : NosR w' w'.heap.size x c :=
  (h.keep (hb.mono hB)).more (Nat.le_trans hB hb.size)
theorem NoR.len {w : World} {B : Nat} {x : List Value} {c : NoD} (h : NoR w B x c) : x.length = 8 := by
  cases h; rfl
theorem NosR.length {w : World} {B : Nat} : ∀ {x : List Value} {l : List NoD}, NosR w B x l → x.length = l.length * 8
  | _, _, .nil => rfl
  | _, _, .cons h1 h2 => by
    have := h1.len
    have := NosR.length h2
    rw [List.length_append, List.length_cons]; omega
theorem NosR.at {w : World} {B : Nat} : ∀ {x : List Value} {l : List NoD}, NosR w B x l → ∀ (i : Nat) (hi : i < l.length), NoR w B ((x.drop (i * 8)).take 8) l[i]
  | _, _, .nil, i, hi => by simp at hi
  | _, _, .cons (x := x) (y := y) h1 h2, i, hi => by
    have h5 := h1.len
    rcases i with _ | i
    · rw [Nat.zero_mul, List.drop_zero, ← h5, List.take_left]; exact h1
    · have : (x ++ y).drop ((i + 1) * 8) = y.drop (i * 8) := by
        rw [show (i + 1) * 8 = x.length + i * 8 by omega, ← List.drop_drop, List.drop_left]
      rw [this]
      exact NosR.at h2 i (by simpa using hi)
theorem TyR.parts {w : World} {B : Nat} {x : List Value} {k : Int} {nm : Bt} {ns : List Bt} {ks : List TyD} (h : TyR w B x (.mk k nm ns ks)) :
    ∃ A1 c1 A2 c2 xk, x = [.int .i64 k, sv nm, .slice A1 ns.length c1, .slice A2 ks.length c2] ∧ Ss w B (.slice A1 ns.length c1) ns ∧ Sl w B 4 (.slice A2 ks.length c2) xk ∧ TysR w B xk ks := by
  cases h with
  | mk h1 h2 h3 =>
    obtain ⟨A1, c1, rfl⟩ := t_sl_exact h1 (by omega) (m := ns.length) (by rw [svs_length]; omega)
    obtain ⟨A2, c2, rfl⟩ := t_sl_exact h2 (by omega) (m := ks.length) h3.length
    exact ⟨A1, c1, A2, c2, _, rfl, h1, h2, h3⟩
theorem NoR.parts {w : World} {B : Nat} {x : List Value} {k n line col : Int} {text : Bt} {ts : List TyD} {ns : List Bt} {ks : List NoD} (h : NoR w B x (.mk k text n line col ts ns ks)) :
    ∃ A1 c1 A2 c2 A3 c3 xt xk, x = [.int .i64 k, sv text, .int .i64 n, .int .i64 line, .int .i64 col, .slice A1 ts.length c1, .slice A2 ns.length c2, .slice A3 ks.length c3] ∧ Sl w B 4 (.slice A1 ts.length c1) xt ∧ TysR w B xt ts ∧ Ss w B (.slice A2 ns.length c2) ns ∧ Sl w B 8 (.slice A3 ks.length c3) xk ∧ NosR w B xk ks := by
  cases h with
  | mk h1 h1r h2 h3 h3r =>
    obtain ⟨A1, c1, rfl⟩ := t_sl_exact h1 (by omega) (m := ts.length) h1r.length
    obtain ⟨A2, c2, rfl⟩ := t_sl_exact h2 (by omega) (m := ns.length) (by rw [svs_length]; omega)
    obtain ⟨A3, c3, rfl⟩ := t_sl_exact h3 (by omega) (m := ks.length) h3r.length
    exact ⟨A1, c1, A2, c2, A3, c3, _, _, rfl, h1, h1r, h2, h3, h3r⟩
theorem TyR.shape {w : World} {B : Nat} {x : List Value} {c : TyD} (h : TyR w B x c) : ∃ k s A1 n1 c1 A2 n2 c2, x = [.int .i64 k, .string s, .slice A1 n1 c1, .slice A2 n2 c2] := by
  cases h with
  | mk h1 h2 _ =>
    obtain ⟨A1, n1, c1, rfl⟩ := t_sl_shape h1
    obtain ⟨A2, n2, c2, rfl⟩ := t_sl_shape h2
    exact ⟨_, _, _, _, _, _, _, _, rfl⟩
theorem NoR.shape {w : World} {B : Nat} {x : List Value} {c : NoD} (h : NoR w B x c) : ∃ k s n l o A1 n1 c1 A2 n2 c2 A3 n3 c3, x = [.int .i64 k, .string s, .int .i64 n, .int .i64 l, .int .i64 o, .slice A1 n1 c1, .slice A2 n2 c2, .slice A3 n3 c3] := by
  cases h with
  | mk h1 _ h2 h3 _ =>
    obtain ⟨A1, n1, c1, rfl⟩ := t_sl_shape h1
    obtain ⟨A2, n2, c2, rfl⟩ := t_sl_shape h2
    obtain ⟨A3, n3, c3, rfl⟩ := t_sl_shape h3
    exact ⟨_, _, _, _, _, _, _, _, _, _, _, _, _, _, rfl⟩
theorem t_part {xs ys : List Value} {n m : Nat} (h : (xs.drop n).take m = ys) {j : Nat} (hj : j < m) : xs[n + j]? = ys[j]? := by
  rw [← h, List.getElem?_take, if_pos hj, List.getElem?_drop]
theorem t_keep {W w' : World} {b i : Nat} {v : Value} (h : Below W.heap.size W w') (d : W.cell? ⟨b, i, none⟩ = some v) (hb : b < W.heap.size) : w'.cell? ⟨b, i, none⟩ = some v :=
  (h.cell (p := ⟨b, i, none⟩) hb).trans d
end Go.Proofs.YtbpedjkebemhnaaGreatDoor

/- Opening arguments: types and nodes that came in. -/
set_option linter.unusedVariables false
namespace Go.Proofs.YtbpedjkebemhnaaGreatDoor
open Go.ChangeShapes Go.WideShapes Go.ChangeAt Go.RowKit

/-- Cells, k of them an element, that read as a list. -/
inductive TRow {α : Type} (R : List Value → α → Prop) (k : Nat) : List Value → List α → Prop
  | nil : TRow R k [] []
  | cons {x y : List Value} {c : α} {l : List α} : x.length = k → R x c → TRow R k y l → TRow R k (x ++ y) (c :: l)
theorem TRow.snoc {α : Type} {R : List Value → α → Prop} {k : Nat} {z : List Value} {c : α} (hz : z.length = k) (hc : R z c) : ∀ {xs : List Value} {ys : List α}, TRow R k xs ys → TRow R k (xs ++ z) (ys ++ [c])
  | _, _, .nil => by have := TRow.cons (R := R) hz hc .nil; simpa using this
  | _, _, .cons h1 h2 h3 => by rw [List.append_assoc, List.cons_append]; exact .cons h1 h2 (TRow.snoc hz hc h3)
theorem TRow.len {α : Type} {R : List Value → α → Prop} {k : Nat} : ∀ {xs : List Value} {ys : List α}, TRow R k xs ys → xs.length = ys.length * k
  | _, _, .nil => by simp
  | _, _, .cons h1 h2 h3 => by rw [List.length_append, List.length_cons, h1, TRow.len h3, Nat.add_mul, Nat.one_mul, Nat.add_comm]
theorem TRow.all {α : Type} {R : List Value → α → Prop} {k : Nat} {S : α → Prop} (hS : ∀ z c, R z c → S c) : ∀ {xs : List Value} {ys : List α}, TRow R k xs ys → ∀ y ∈ ys, S y
  | _, _, .nil, y, hy => by cases hy
  | _, _, .cons h1 h2 h3, y, hy => by
    rcases List.mem_cons.1 hy with rfl | hy
    · exact hS _ _ h2
    · exact TRow.all hS h3 y hy
section
variable {H : Type} {enc : TypeId × Value → H} {P : Program} {W : World}
theorem open_row {α : Type} {t e : TypeId} {k : Nat} (ht : P.underlying t = some (.slice e)) (hc : P.cellsOf e = k) (hk : 0 < k) {fuel : Nat} {v : Value} {x : DataW H × List MemPlace} (h : DataW.trod enc P W 0 (fun _ => true) true fuel t [v] = some x)
    (R : List Value → α → Prop) (hel : ∀ n cs' x', n < fuel → DataW.trod enc P W 0 (fun _ => true) true n e cs' = some x' → cs'.length = k → ∃ y, R cs' y) :
    ∃ (xs : List Value) (ys : List α), Sl W W.heap.size k v xs ∧ TRow R k xs ys := by
  rcases DataW.trod_slice ht h with ⟨hcs, hx⟩ | ⟨a, len, cap, elems, rest, n, hf, hcs, hx, hb, hl, hm, hlen, hcell, _, _⟩
  · obtain rfl : v = .slice none 0 0 := by simpa using hcs
    exact ⟨[], [], Sl.nil _ _ _, .nil⟩
  · obtain rfl : v = .slice (some a) len cap := by simpa using hcs
    have hone : ∀ i, i < len → ∃ cs' y, W.cells? 0 (a.add (i * k)) k = some cs' ∧ R cs' y ∧ cs'.length = k := by
      intro i hi
      have h1 := hcell i hi
      rw [hc, List.getElem?_eq_getElem (by omega)] at h1
      obtain ⟨cs', h2, h3⟩ := Option.bind_eq_some_iff.1 h1
      have hcl := (World.cells?_some h2).2.1
      obtain ⟨y, hy1⟩ := hel n cs' _ (by omega) h3 hcl
      exact ⟨cs', y, h2, hy1, hcl⟩
    have hall : ∀ m, m ≤ len → ∃ (xs : List Value) (ys : List α), TRow R k xs ys ∧ ys.length = m ∧ (∀ j u, xs[j]? = some u → W.cell? (a.add j) = some u) := by
      intro m
      induction m with
      | zero => exact fun _ => ⟨[], [], .nil, rfl, fun j u hu => by simp at hu⟩
      | succ m ih =>
        intro hm1
        obtain ⟨xs, ys, h1, h2, h3⟩ := ih (by omega)
        obtain ⟨cs', y, h5, h6, h7⟩ := hone m (by omega)
        have hxl : xs.length = m * k := by rw [h1.len, h2]
        refine ⟨xs ++ cs', ys ++ [y], h1.snoc h7 h6, by rw [List.length_append, h2]; rfl, fun j u hu => ?_⟩
        rcases Nat.lt_or_ge j xs.length with hj | hj
        · rw [List.getElem?_append_left hj] at hu
          exact h3 j u hu
        · rw [List.getElem?_append_right hj] at hu
          have hjk : j - xs.length < k := by
            rcases Nat.lt_or_ge (j - xs.length) k with hlt | hge
            · exact hlt
            · rw [List.getElem?_eq_none (by omega)] at hu; cases hu
          have h9 := (World.cells?_some h5).2.2 (j - xs.length) hjk
          rw [hu] at h9
          have hadd : (a.add (m * k)).add (j - xs.length) = a.add j := by
            rw [Deep.add_add, ← hxl]; congr 1; omega
          rw [hadd] at h9
          exact h9
    obtain ⟨xs, ys, h1, h2, h3⟩ := hall len (Nat.le_refl _)
    have hxl : xs.length = len * k := by rw [h1.len, h2]
    refine ⟨xs, ys, ⟨some a, len, cap, rfl, hxl, hl, hm, fun h0 => ?_⟩, h1⟩
    have hp : 0 < xs.length := by rw [hxl]; exact Nat.mul_pos h0 hk
    have h5 := h3 0 xs[0] (by simp [hp])
    obtain ⟨b, off, spot⟩ := a
    have hspot : spot = none := by simpa [Addr.add] using World.cell?_spot h5
    subst hspot
    refine ⟨b, off, rfl, ?_, fun j u hu => ?_⟩
    · rw [plain_add] at h5
      exact World.block_lt_of_cell? W _ h5
    · have := h3 j u hu
      rw [plain_add] at this
      exact this
end
mutual
/-- Numbers and texts that are no longer than any. -/
def okT : TyD → Prop
  | .mk k nm ns ks => In64 k ∧ nm.length ≤ maxLen ∧ (∀ x ∈ ns, x.length ≤ maxLen) ∧ okTs ks
def okTs : List TyD → Prop
  | [] => True
  | t :: l => okT t ∧ okTs l
end
theorem okTs_mem : ∀ {l : List TyD}, okTs l ↔ ∀ x ∈ l, okT x
  | [] => by simp [okTs]
  | c :: l => by
    rw [okTs, okTs_mem (l := l)]
    simp
mutual
def okN : NoD → Prop
  | .mk k text n line col ts ns ks => In64 k ∧ text.length ≤ maxLen ∧ In64 n ∧ In64 line ∧ In64 col ∧ (∀ x ∈ ts, okT x) ∧ (∀ x ∈ ns, x.length ≤ maxLen) ∧ okNs ks
def okNs : List NoD → Prop
  | [] => True
  | t :: l => okN t ∧ okNs l
end
theorem okNs_mem : ∀ {l : List NoD}, okNs l ↔ ∀ x ∈ l, okN x
  | [] => by simp [okNs]
  | c :: l => by
    rw [okNs, okNs_mem (l := l)]
    simp
section
variable {H : Type} {enc : TypeId × Value → H} {W : World}
theorem row_txts {xs : List Value} {ys : List Bt} (h : TRow (fun cs y => cs = [sv y] ∧ y.length ≤ maxLen) 1 xs ys) : xs = svs ys ∧ ∀ y ∈ ys, y.length ≤ maxLen := by
  refine ⟨?_, h.all (S := fun y => y.length ≤ maxLen) fun _ _ h => h.2⟩
  induction h with
  | nil => rfl
  | cons h1 h2 h3 ih => rw [ih, h2.1]; rfl
theorem row_tys {xs : List Value} {ys : List TyD} (h : TRow (fun cs y => TyR W W.heap.size cs y ∧ okT y) 4 xs ys) : TysR W W.heap.size xs ys ∧ ∀ y ∈ ys, okT y := by
  refine ⟨?_, h.all (S := okT) fun _ _ h => h.2⟩
  induction h with
  | nil => exact .nil
  | cons h1 h2 h3 ih => exact .cons h2.1 ih
theorem row_nos {xs : List Value} {ys : List NoD} (h : TRow (fun cs y => NoR W W.heap.size cs y ∧ okN y) 8 xs ys) : NosR W W.heap.size xs ys ∧ ∀ y ∈ ys, okN y := by
  refine ⟨?_, h.all (S := okN) fun _ _ h => h.2⟩
  induction h with
  | nil => exact .nil
  | cons h1 h2 h3 ih => exact .cons h2.1 ih
theorem t_in {fuel : Nat} {u : Value} {x : DataW H × List MemPlace} (h : DataW.trod enc Tryz.prog W 0 (fun _ => true) true fuel 3 [u] = some x) : ∃ y, u = .int .i64 y ∧ In64 y := by
  obtain ⟨n, hn, rfl, hw⟩ := DataW.trod_int Tryz.underlying3 h
  exact ⟨n, by simpa using hn, wf_in64 hw⟩
theorem t_tx {fuel : Nat} {u : Value} {x : DataW H × List MemPlace} (h : DataW.trod enc Tryz.prog W 0 (fun _ => true) true fuel 9 [u] = some x) : ∃ y : Bt, u = sv y ∧ y.length ≤ maxLen := by
  obtain ⟨s, hs, rfl, hm⟩ := DataW.trod_string Tryz.underlying9 h
  have e : s.data.toList.length = s.size := Array.length_toList
  have hu : u = .string s := by simpa using hs
  exact ⟨s.data.toList, by rw [hu, sv_of], by rw [e]; exact hm⟩
theorem t_texts {fuel : Nat} {v : Value} {x : DataW H × List MemPlace} (h : DataW.trod enc Tryz.prog W 0 (fun _ => true) true fuel 23 [v] = some x) : ∃ y, Ss W W.heap.size v y ∧ ∀ z ∈ y, z.length ≤ maxLen := by
  obtain ⟨xs, ys, h1, h2⟩ := open_row Tryz.underlying23 (k := 1) (by kernel_rfl) (by omega) h (fun cs y => cs = [sv y] ∧ y.length ≤ maxLen) (fun n cs' x' _ ht hl => by
    match cs', hl with
    | [u], _ =>
      obtain ⟨y, rfl, hy⟩ := t_tx ht
      exact ⟨y, rfl, hy⟩)
  obtain ⟨rfl, h4⟩ := row_txts h2
  exact ⟨ys, h1, h4⟩
set_option maxRecDepth 100000 in
theorem open_ty : ∀ (fuel : Nat) (cs : List Value) (x : DataW H × List MemPlace), DataW.trod enc Tryz.prog W 0 (fun _ => true) true fuel 32 cs = some x → ∃ y, TyR W W.heap.size cs y ∧ okT y := by
  intro fuel
  induction fuel using Nat.strongRecOn with
  | _ fuel ih =>
    intro cs x h
    obtain ⟨xs, n, hn, rfl, hl, hlen, hf⟩ := DataW.trod_struct Tryz.underlying32 h
    rw [show Tryz.prog.cellsOf 32 = 4 by kernel_rfl] at hl
    match cs, hl, xs, hlen with
    | [u0, u1, u2, u3], _, [y0, y1, y2, y3], _ =>
      have t0 : DataW.trod enc Tryz.prog W 0 (fun _ => true) true n 3 [u0] = some y0 := hf 0 _ rfl
      have t1 : DataW.trod enc Tryz.prog W 0 (fun _ => true) true n 9 [u1] = some y1 := hf 1 _ rfl
      have t2 : DataW.trod enc Tryz.prog W 0 (fun _ => true) true n 23 [u2] = some y2 := hf 2 _ rfl
      have t3 : DataW.trod enc Tryz.prog W 0 (fun _ => true) true n 22 [u3] = some y3 := hf 3 _ rfl
      obtain ⟨k, rfl, hk⟩ := t_in t0
      obtain ⟨nm, rfl, hnm⟩ := t_tx t1
      obtain ⟨ns, r2, o2⟩ := t_texts t2
      obtain ⟨zk, ks, f1, f2⟩ := open_row Tryz.underlying22 (k := 4) (by kernel_rfl) (by omega) t3 (fun cs y => TyR W W.heap.size cs y ∧ okT y) (fun m cs' x' hm ht _ => ih m (by omega) cs' x' ht)
      obtain ⟨g1, g2⟩ := row_tys f2
      refine ⟨.mk k nm ns ks, .mk r2 f1 g1, ?_⟩
      rw [okT]
      exact ⟨hk, hnm, o2, okTs_mem.2 g2⟩
set_option maxRecDepth 100000 in
theorem open_no : ∀ (fuel : Nat) (cs : List Value) (x : DataW H × List MemPlace), DataW.trod enc Tryz.prog W 0 (fun _ => true) true fuel 26 cs = some x → ∃ y, NoR W W.heap.size cs y ∧ okN y := by
  intro fuel
  induction fuel using Nat.strongRecOn with
  | _ fuel ih =>
    intro cs x h
    obtain ⟨xs, n, hn, rfl, hl, hlen, hf⟩ := DataW.trod_struct Tryz.underlying26 h
    rw [show Tryz.prog.cellsOf 26 = 8 by kernel_rfl] at hl
    match cs, hl, xs, hlen with
    | [u0, u1, u2, u3, u4, u5, u6, u7], _, [y0, y1, y2, y3, y4, y5, y6, y7], _ =>
      have t0 : DataW.trod enc Tryz.prog W 0 (fun _ => true) true n 3 [u0] = some y0 := hf 0 _ rfl
      have t1 : DataW.trod enc Tryz.prog W 0 (fun _ => true) true n 9 [u1] = some y1 := hf 1 _ rfl
      have t2 : DataW.trod enc Tryz.prog W 0 (fun _ => true) true n 3 [u2] = some y2 := hf 2 _ rfl
      have t3 : DataW.trod enc Tryz.prog W 0 (fun _ => true) true n 3 [u3] = some y3 := hf 3 _ rfl
      have t4 : DataW.trod enc Tryz.prog W 0 (fun _ => true) true n 3 [u4] = some y4 := hf 4 _ rfl
      have t5 : DataW.trod enc Tryz.prog W 0 (fun _ => true) true n 22 [u5] = some y5 := hf 5 _ rfl
      have t6 : DataW.trod enc Tryz.prog W 0 (fun _ => true) true n 23 [u6] = some y6 := hf 6 _ rfl
      have t7 : DataW.trod enc Tryz.prog W 0 (fun _ => true) true n 24 [u7] = some y7 := hf 7 _ rfl
      obtain ⟨k, rfl, hk⟩ := t_in t0
      obtain ⟨tx, rfl, htx⟩ := t_tx t1
      obtain ⟨nn, rfl, hnn⟩ := t_in t2
      obtain ⟨ln, rfl, hln⟩ := t_in t3
      obtain ⟨cl, rfl, hcl⟩ := t_in t4
      obtain ⟨zt, ts, e1, e2⟩ := open_row Tryz.underlying22 (k := 4) (by kernel_rfl) (by omega) t5 (fun cs y => TyR W W.heap.size cs y ∧ okT y) (fun m cs' x' hm ht _ => open_ty m cs' x' ht)
      obtain ⟨d1, d2⟩ := row_tys e2
      obtain ⟨ns, r2, o2⟩ := t_texts t6
      obtain ⟨zk, ks, f1, f2⟩ := open_row Tryz.underlying24 (k := 8) (by kernel_rfl) (by omega) t7 (fun cs y => NoR W W.heap.size cs y ∧ okN y) (fun m cs' x' hm ht _ => ih m (by omega) cs' x' ht)
      obtain ⟨g1, g2⟩ := row_nos f2
      refine ⟨.mk k tx nn ln cl ts ns ks, .mk e1 d1 r2 f1 g1, ?_⟩
      rw [okN]
      exact ⟨hk, htx, hnn, hln, hcl, d2, o2, okNs_mem.2 g2⟩
/-- A struct that came in as an argument: its cells. -/
theorem agg_cells {t : TypeId} {v : Value} {d : DataW H} {p : List MemPlace} {k : Nat} (hk : 1 < k) (hu : ∃ fs, Tryz.prog.underlying t = some (.struct fs)) (hc : Tryz.prog.cellsOf t = k) (hd : DataW.Trod enc Tryz.prog W 0 (fun _ => true) true t v d p) : ∃ z : List Value, v = Value.agg z.toArray ∧ v.cells.toList = z := by
  obtain ⟨fuel, h⟩ := hd
  obtain ⟨fs, hu⟩ := hu
  obtain ⟨xs, n, _, _, hl, _⟩ := DataW.trod_struct hu h
  rw [hc] at hl
  cases v with
  | agg z => exact ⟨z.toList, by simp, rfl⟩
  | _ => simp [Value.cells] at hl; omega
end
end Go.Proofs.YtbpedjkebemhnaaGreatDoor
end
section
/- Modules in plain Lean: which of them may be printed, how, and one without places. -/
set_option linter.unusedVariables false
namespace Go.Proofs.YtbpedjkebemhnaaGreatDoor

/-- An import. -/
structure ImD where
  from_ : Bt
  names : List Bt
  line : Int
  col : Int
/-- A variable for a type. -/
structure VaD where
  name : Bt
  bound : TyD
/-- A function. -/
structure DeD where
  name : Bt
  exp : Bool
  vars : List VaD
  param : Bt
  types : List TyD
  body : NoD
  line : Int
  col : Int
/-- A module. -/
structure MoD where
  imps : List ImD
  decls : List DeD

def impB (i : ImD) : Bool := nameL i.from_ && !i.names.isEmpty && i.names.all nameL
def declB (d : DeD) : Bool :=
  nameL d.name && nameL d.param && d.types.length == 2 && nodeB 25 d.body && d.vars.all (fun v => nameL v.name) && d.types.all (writtenB 16) && d.vars.all (fun v => writtenB 16 v.bound)
def mayB (m : MoD) : Bool := m.imps.all impB && m.decls.all declB
def varS (v : VaD) : Bt := if v.bound.kind = 0 then v.name else v.name ++ ([32, 60, 58, 32] ++ showT v.bound)
def varsS (l : List VaD) : Bt := if l.isEmpty then [] else [91] ++ (joinS [44, 32] (l.map varS) ++ [93])
def impS (i : ImD) : Bt := cat [[105, 109, 112, 111, 114, 116, 32], i.from_, [58, 32], joinS [44, 32] i.names, [59, 10]]
def expS (b : Bool) : Bt := if b then [101, 120, 112, 111, 114, 116, 32] else []
def funS (d : DeD) : Bt := cat [[102, 110, 32], d.name, varsS d.vars, [40], d.param, noteS d.types 0, [41], noteS d.types 1, [32, 61, 32], exprS d.body, [59, 10]]
def declS (d : DeD) : Bt := expS d.exp ++ funS d
def printS (m : MoD) : Bt := m.imps.flatMap impS ++ m.decls.flatMap declS
def printT (m : MoD) : Bt := if mayB m then printS m else []
mutual
def bareN : NoD → NoD
  | .mk k text n _ _ ts ns ks => .mk k text n 0 0 ts ns (bareNs ks)
def bareNs : List NoD → List NoD
  | [] => []
  | x :: l => bareN x :: bareNs l
end
theorem bareNs_map : ∀ l : List NoD, bareNs l = l.map bareN
  | [] => by simp [bareNs]
  | t :: l => by simp [bareNs, bareNs_map l]
def bareI (i : ImD) : ImD := { i with line := 0, col := 0 }
def bareD (d : DeD) : DeD := { d with line := 0, col := 0, body := bareN d.body }
def bareM (m : MoD) : MoD := ⟨m.imps.map bareI, m.decls.map bareD⟩
end Go.Proofs.YtbpedjkebemhnaaGreatDoor
end
section
/- What modules read as in memory. -/
set_option linter.unusedVariables false
namespace Go.Proofs.YtbpedjkebemhnaaGreatDoor
open Go.RowKit

theorem TRow.imp {α : Type} {R S : List Value → α → Prop} {k : Nat} (hS : ∀ z c, R z c → S z c) : ∀ {xs : List Value} {ys : List α}, TRow R k xs ys → TRow S k xs ys
  | _, _, .nil => .nil
  | _, _, .cons h1 h2 h3 => .cons h1 (hS _ _ h2) (TRow.imp hS h3)
theorem TRow.at {α : Type} {R : List Value → α → Prop} {k : Nat} : ∀ {xs : List Value} {ys : List α}, TRow R k xs ys → ∀ (i : Nat) (hi : i < ys.length), R ((xs.drop (i * k)).take k) ys[i]
  | _, _, .nil, i, hi => by simp at hi
  | _, _, .cons (x := x) (y := y) h1 h2 h3, i, hi => by
    rcases i with _ | i
    · rw [Nat.zero_mul, List.drop_zero, ← h1, List.take_left]; exact h2
    · have : (x ++ y).drop ((i + 1) * k) = y.drop (i * k) := by
        rw [show (i + 1) * k = x.length + i * k by rw [h1, Nat.add_mul, Nat.one_mul, Nat.add_comm], ← List.drop_drop, List.drop_left]
      rw [this]
      exact TRow.at h3 i (by simpa using hi)
theorem TRow.and {α : Type} {R S : List Value → α → Prop} {k : Nat} : ∀ {xs : List Value} {ys : List α}, TRow (fun z c => R z c ∧ S z c) k xs ys → TRow R k xs ys ∧ TRow S k xs ys
  | _, _, .nil => ⟨.nil, .nil⟩
  | _, _, .cons h1 h2 h3 => ⟨.cons h1 h2.1 (TRow.and h3).1, .cons h1 h2.2 (TRow.and h3).2⟩
theorem TRow.app {α : Type} {R : List Value → α → Prop} {k : Nat} {xt : List Value} {yt : List α} (h : TRow R k xt yt) : ∀ {xs : List Value} {ys : List α}, TRow R k xs ys → TRow R k (xs ++ xt) (ys ++ yt)
  | _, _, .nil => h
  | _, _, .cons h1 h2 h3 => by rw [List.append_assoc, List.cons_append]; exact .cons h1 h2 (TRow.app h h3)

/-- Four cells read as an import. -/
def ImR (w : World) (B : Nat) (z : List Value) (i : ImD) : Prop := ∃ vn, z = [sv i.from_, vn, .int .i64 i.line, .int .i64 i.col] ∧ Ss w B vn i.names
/-- Five cells read as a variable for a type. -/
def VaR (w : World) (B : Nat) (z : List Value) (v : VaD) : Prop := ∃ y, z = sv v.name :: y ∧ TyR w B y v.bound
/-- Fifteen cells read as a function. -/
def DeR (w : World) (B : Nat) (z : List Value) (d : DeD) : Prop :=
  ∃ vv xv vt xt y, z = [sv d.name, .bool d.exp, vv, sv d.param, vt] ++ (y ++ [.int .i64 d.line, .int .i64 d.col]) ∧ Sl w B 5 vv xv ∧ TRow (VaR w B) 5 xv d.vars ∧ Sl w B 4 vt xt ∧ TysR w B xt d.types ∧ NoR w B y d.body
/-- Two cells read as a module. -/
def MoR (w : World) (B : Nat) (z : List Value) (m : MoD) : Prop :=
  ∃ vi xi vd xd, z = [vi, vd] ∧ Sl w B 4 vi xi ∧ TRow (ImR w B) 4 xi m.imps ∧ Sl w B 15 vd xd ∧ TRow (DeR w B) 15 xd m.decls
section
variable {w w' : World} {B B' : Nat} {z : List Value}
theorem ImR.keep {i : ImD} (h : ImR w B z i) (hb : Below B w w') : ImR w' B z i := by
  obtain ⟨vn, e, h1⟩ := h
  exact ⟨vn, e, h1.below hb⟩
theorem ImR.more {i : ImD} (h : ImR w B z i) (hb : B ≤ B') : ImR w B' z i := by
  obtain ⟨vn, e, h1⟩ := h
  exact ⟨vn, e, h1.more hb⟩
theorem VaR.keep {i : VaD} (h : VaR w B z i) (hb : Below B w w') : VaR w' B z i := by
  obtain ⟨vn, e, h1⟩ := h
  exact ⟨vn, e, h1.keep hb⟩
theorem VaR.more {i : VaD} (h : VaR w B z i) (hb : B ≤ B') : VaR w B' z i := by
  obtain ⟨vn, e, h1⟩ := h
  exact ⟨vn, e, h1.more hb⟩
theorem DeR.keep {i : DeD} (h : DeR w B z i) (hb : Below B w w') : DeR w' B z i := by
  obtain ⟨vv, xv, vt, xt, y, e, h1, h2, h3, h4, h5⟩ := h
  exact ⟨vv, xv, vt, xt, y, e, Sl.below h1 hb, h2.imp fun _ _ h => h.keep hb, Sl.below h3 hb, h4.keep hb, h5.keep hb⟩
theorem DeR.more {i : DeD} (h : DeR w B z i) (hb : B ≤ B') : DeR w B' z i := by
  obtain ⟨vv, xv, vt, xt, y, e, h1, h2, h3, h4, h5⟩ := h
  exact ⟨vv, xv, vt, xt, y, e, Sl.more h1 hb, h2.imp fun _ _ h => h.more hb, Sl.more h3 hb, h4.more hb, h5.more hb⟩
theorem MoR.keep {i : MoD} (h : MoR w B z i) (hb : Below B w w') : MoR w' B z i := by
  obtain ⟨vi, xi, vd, xd, e, h1, h2, h3, h4⟩ := h
  exact ⟨vi, xi, vd, xd, e, Sl.below h1 hb, h2.imp fun _ _ h => h.keep hb, Sl.below h3 hb, h4.imp fun _ _ h => h.keep hb⟩
theorem MoR.more {i : MoD} (h : MoR w B z i) (hb : B ≤ B') : MoR w B' z i := by
  obtain ⟨vi, xi, vd, xd, e, h1, h2, h3, h4⟩ := h
  exact ⟨vi, xi, vd, xd, e, Sl.more h1 hb, h2.imp fun _ _ h => h.more hb, Sl.more h3 hb, h4.imp fun _ _ h => h.more hb⟩
theorem MoR.far {i : MoD} (h : MoR w B z i) (hB : B ≤ w.heap.size) (hb : Below w.heap.size w w') : MoR w' w'.heap.size z i :=
  (h.keep (hb.mono hB)).more (Nat.le_trans hB hb.size)
theorem DeR.far {i : DeD} (h : DeR w B z i) (hB : B ≤ w.heap.size) (hb : Below w.heap.size w w') : DeR w' w'.heap.size z i :=
  (h.keep (hb.mono hB)).more (Nat.le_trans hB hb.size)
theorem DeR.len {d : DeD} (h : DeR w B z d) : z.length = 15 := by
  obtain ⟨vv, xv, vt, xt, y, rfl, _, _, _, _, h5⟩ := h
  have := h5.len
  simp only [List.length_append, List.length_cons, List.length_nil]; omega
theorem VaR.len {d : VaD} (h : VaR w B z d) : z.length = 5 := by
  obtain ⟨y, rfl, h5⟩ := h
  have := h5.len
  simp only [List.length_cons]; omega
/-- A function's cells. -/
theorem DeR.parts {d : DeD} (h : DeR w B z d) :
    ∃ A1 c1 A2 c2 k s n l c A3 n3 c3 A4 n4 c4 A5 n5 c5 xv xt, z = [sv d.name, .bool d.exp, .slice A1 d.vars.length c1, sv d.param, .slice A2 d.types.length c2, .int .i64 k, .string s, .int .i64 n, .int .i64 l, .int .i64 c, .slice A3 n3 c3, .slice A4 n4 c4, .slice A5 n5 c5, .int .i64 d.line, .int .i64 d.col] ∧
      Sl w B 5 (.slice A1 d.vars.length c1) xv ∧ TRow (VaR w B) 5 xv d.vars ∧ Sl w B 4 (.slice A2 d.types.length c2) xt ∧ TysR w B xt d.types ∧ NoR w B [.int .i64 k, .string s, .int .i64 n, .int .i64 l, .int .i64 c, .slice A3 n3 c3, .slice A4 n4 c4, .slice A5 n5 c5] d.body := by
  obtain ⟨vv, xv, vt, xt, y, rfl, h1, h2, h3, h4, h5⟩ := h
  obtain ⟨A1, c1, rfl⟩ := t_sl_exact h1 (by omega) (m := d.vars.length) h2.len
  obtain ⟨A2, c2, rfl⟩ := t_sl_exact h3 (by omega) (m := d.types.length) h4.length
  obtain ⟨k, s, n, l, c, A3, n3, c3, A4, n4, c4, A5, n5, c5, rfl⟩ := h5.shape
  exact ⟨A1, c1, A2, c2, k, s, n, l, c, A3, n3, c3, A4, n4, c4, A5, n5, c5, xv, xt, rfl, h1, h2, h3, h4, h5⟩
/-- A module's cells. -/
theorem MoR.parts {m : MoD} (h : MoR w B z m) :
    ∃ A1 c1 A2 c2 xi xd, z = [.slice A1 m.imps.length c1, .slice A2 m.decls.length c2] ∧ Sl w B 4 (.slice A1 m.imps.length c1) xi ∧ TRow (ImR w B) 4 xi m.imps ∧ Sl w B 15 (.slice A2 m.decls.length c2) xd ∧ TRow (DeR w B) 15 xd m.decls := by
  obtain ⟨vi, xi, vd, xd, rfl, h1, h2, h3, h4⟩ := h
  obtain ⟨A1, c1, rfl⟩ := t_sl_exact h1 (by omega) (m := m.imps.length) h2.len
  obtain ⟨A2, c2, rfl⟩ := t_sl_exact h3 (by omega) (m := m.decls.length) h4.len
  exact ⟨A1, c1, A2, c2, xi, xd, rfl, h1, h2, h3, h4⟩
end
/-- An element's cells, of elements of any size. -/
theorem row_part {z xs : List Value} {i k j : Nat} {v : Value} (hz : (xs.drop (i * k)).take k = z) (hj : z[j]? = some v) : xs[i * k + j]? = some v := by
  subst hz
  rw [List.getElem?_take] at hj
  split at hj
  · rw [List.getElem?_drop] at hj; exact hj
  · cases hj
theorem row_at {α : Type} {R : List Value → α → Prop} {w : World} {B k : Nat} {A : Option Addr} {n c : Nat} {xs : List Value} {l : List α} (hs : Sl w B k (.slice A n c) xs) (hr : TRow R k xs l) (hk : 0 < k) {i : Nat} (hi : i < l.length) (hn : n = l.length) :
    ∃ b o z, A = some ⟨b, o, none⟩ ∧ b < B ∧ R z l[i] ∧ ∀ (j : Nat) v, z[j]? = some v → w.cell? ⟨b, o + i * k + j, none⟩ = some v := by
  subst hn
  obtain ⟨b1, o1, rfl, hb1, hc1⟩ := t_sl_in hs hi hk
  exact ⟨b1, o1, _, rfl, hb1, hr.at i hi, fun j v hv => by have := hc1 j v (row_part rfl hv); rwa [← Nat.add_assoc] at this⟩
/-- Numbers and texts that are no longer than any. -/
def okI (i : ImD) : Prop := i.from_.length ≤ maxLen ∧ (∀ x ∈ i.names, x.length ≤ maxLen) ∧ In64 i.line ∧ In64 i.col
def okV (v : VaD) : Prop := v.name.length ≤ maxLen ∧ okT v.bound
def okD (d : DeD) : Prop := d.name.length ≤ maxLen ∧ (∀ v ∈ d.vars, okV v) ∧ d.param.length ≤ maxLen ∧ (∀ t ∈ d.types, okT t) ∧ okN d.body ∧ In64 d.line ∧ In64 d.col
def okM (m : MoD) : Prop := (∀ i ∈ m.imps, okI i) ∧ (∀ d ∈ m.decls, okD d)
end Go.Proofs.YtbpedjkebemhnaaGreatDoor
end
section
/- Types and nodes with a footprint: what they are read from lies in blocks of F. -/
set_option linter.unusedVariables false
namespace Go.Proofs.YtbpedjkebemhnaaGreatDoor
open Go.RowKit

/-- The slice value v reads as the cells xs, which lie in a block of F. -/
def SlG (w : World) (F : Nat → Prop) (k : Nat) (v : Value) (xs : List Value) : Prop :=
  ∃ (A : Option Addr) (n c : Nat), v = .slice A n c ∧ xs.length = n * k ∧ n ≤ c ∧ c ≤ maxLen ∧
    (0 < n → ∃ b off, A = some ⟨b, off, none⟩ ∧ F b ∧ b < w.heap.size ∧ ∀ (j : Nat) u, xs[j]? = some u → w.cell? ⟨b, off + j, none⟩ = some u)
section
variable {w w' : World} {F G : Nat → Prop} {B k : Nat} {v : Value} {xs : List Value}
theorem SlG.turn (h : SlG w F k v xs) (t : Turn G w w') (hd : ∀ g, g < w.heap.size → F g → ¬ G g) : SlG w' F k v xs := by
  obtain ⟨A, n, c, hv, hl, hn, hc, hx⟩ := h
  refine ⟨A, n, c, hv, hl, hn, hc, fun h0 => ?_⟩
  obtain ⟨b, off, hA, hb, hs, hcell⟩ := hx h0
  refine ⟨b, off, hA, hb, t.lt hs, fun j u hu => ?_⟩
  rw [← hcell j u hu]
  have h1 := t.block hs (hd b hs hb)
  simp only [World.cell?, h1]
theorem SlG.mono (h : SlG w F k v xs) (hF : ∀ g, g < w.heap.size → F g → G g) : SlG w G k v xs := by
  obtain ⟨A, n, c, hv, hl, hn, hc, hx⟩ := h
  refine ⟨A, n, c, hv, hl, hn, hc, fun h0 => ?_⟩
  obtain ⟨b, off, hA, hb, hs, hcell⟩ := hx h0
  exact ⟨b, off, hA, hF b hs hb, hs, hcell⟩
theorem SlG.of (h : Sl w B k v xs) (hB : B ≤ w.heap.size) : SlG w (· < B) k v xs := by
  obtain ⟨A, n, c, hv, hl, hn, hc, hx⟩ := h
  refine ⟨A, n, c, hv, hl, hn, hc, fun h0 => ?_⟩
  obtain ⟨b, off, hA, hb, hcell⟩ := hx h0
  exact ⟨b, off, hA, hb, Nat.lt_of_lt_of_le hb hB, hcell⟩
theorem SlG.to (h : SlG w F k v xs) (hF : ∀ g, g < w.heap.size → F g → g < B) : Sl w B k v xs := by
  obtain ⟨A, n, c, hv, hl, hn, hc, hx⟩ := h
  refine ⟨A, n, c, hv, hl, hn, hc, fun h0 => ?_⟩
  obtain ⟨b, off, hA, hb, hs, hcell⟩ := hx h0
  exact ⟨b, off, hA, hF b hs hb, hcell⟩
theorem SlG.all (h : SlG w F k v xs) : Sl w w.heap.size k v xs := h.to fun _ hg _ => hg
theorem SlG.nil (w : World) (F : Nat → Prop) (k : Nat) : SlG w F k (.slice none 0 0) [] :=
  ⟨none, 0, 0, rfl, by simp, Nat.le_refl _, Nat.zero_le _, fun h => absurd h (by omega)⟩
/-- What is a row of one's own, in a block of F. -/
theorem SlG.own {base : Nat} {e : TypeId} {n : Nat} (h : w.ownsRow base e k v n xs) (hF : ∀ g, v.ownBlock = some g → F g) : SlG w F k v xs := by
  have h1 := Sl.of_own h
  obtain ⟨A, n', c, hv, hl, hn, hc, hx⟩ := h1
  refine ⟨A, n', c, hv, hl, hn, hc, fun h0 => ?_⟩
  obtain ⟨b, off, hA, hb, hcell⟩ := hx h0
  exact ⟨b, off, hA, hF b (by subst hv hA; rfl), hb, hcell⟩
theorem SlG.below (h : SlG w F k v xs) (hb : Below w.heap.size w w') : SlG w' F k v xs := h.turn (Turn.of_below (F := fun _ => False) hb) fun _ _ _ h => h
end
mutual
/-- Four cells read as a type, from blocks of F. -/
inductive TyG (w : World) (F : Nat → Prop) : List Value → TyD → Prop
  | mk {k : Int} {nm : Bt} {vn vk : Value} {ns : List Bt} {ks : List TyD} {xk : List Value} : SlG w F 1 vn (svs ns) → SlG w F 4 vk xk → TysG w F xk ks → TyG w F [.int .i64 k, sv nm, vn, vk] (.mk k nm ns ks)
inductive TysG (w : World) (F : Nat → Prop) : List Value → List TyD → Prop
  | nil : TysG w F [] []
  | cons {x y : List Value} {c : TyD} {l : List TyD} : TyG w F x c → TysG w F y l → TysG w F (x ++ y) (c :: l)
end
mutual
/-- Eight cells read as a node, from blocks of F. -/
inductive NoG (w : World) (F : Nat → Prop) : List Value → NoD → Prop
  | mk {k n line col : Int} {text : Bt} {vt vn vk : Value} {ts : List TyD} {xt : List Value} {ns : List Bt} {ks : List NoD} {xk : List Value} : SlG w F 4 vt xt → TysG w F xt ts → SlG w F 1 vn (svs ns) → SlG w F 8 vk xk → NosG w F xk ks →
      NoG w F [.int .i64 k, sv text, .int .i64 n, .int .i64 line, .int .i64 col, vt, vn, vk] (.mk k text n line col ts ns ks)
inductive NosG (w : World) (F : Nat → Prop) : List Value → List NoD → Prop
  | nil : NosG w F [] []
  | cons {x y : List Value} {c : NoD} {l : List NoD} : NoG w F x c → NosG w F y l → NosG w F (x ++ y) (c :: l)
end
section
variable {w w' : World} {F G : Nat → Prop} {B : Nat}
mutual
theorem TyG.turn {x : List Value} {c : TyD} (h : TyG w F x c) (t : Turn G w w') (hd : ∀ g, g < w.heap.size → F g → ¬ G g) : TyG w' F x c :=
  match h with
  | .mk h1 h2 h3 => .mk (h1.turn t hd) (h2.turn t hd) (h3.turn t hd)
theorem TysG.turn {x : List Value} {l : List TyD} (h : TysG w F x l) (t : Turn G w w') (hd : ∀ g, g < w.heap.size → F g → ¬ G g) : TysG w' F x l :=
  match h with
  | .nil => .nil
  | .cons h1 h2 => .cons (h1.turn t hd) (h2.turn t hd)
end
mutual
theorem TyG.mono {x : List Value} {c : TyD} (h : TyG w F x c) (hF : ∀ g, g < w.heap.size → F g → G g) : TyG w G x c :=
  match h with
  | .mk h1 h2 h3 => .mk (h1.mono hF) (h2.mono hF) (h3.mono hF)
theorem TysG.mono {x : List Value} {l : List TyD} (h : TysG w F x l) (hF : ∀ g, g < w.heap.size → F g → G g) : TysG w G x l :=
  match h with
  | .nil => .nil
  | .cons h1 h2 => .cons (h1.mono hF) (h2.mono hF)
end
mutual
theorem TyG.of {x : List Value} {c : TyD} (h : TyR w B x c) (hB : B ≤ w.heap.size) : TyG w (· < B) x c :=
  match h with
  | .mk h1 h2 h3 => .mk (SlG.of h1 hB) (SlG.of h2 hB) (TysG.of h3 hB)
theorem TysG.of {x : List Value} {l : List TyD} (h : TysR w B x l) (hB : B ≤ w.heap.size) : TysG w (· < B) x l :=
  match h with
  | .nil => .nil
  | .cons h1 h2 => .cons (TyG.of h1 hB) (TysG.of h2 hB)
end
mutual
theorem TyG.to {x : List Value} {c : TyD} (h : TyG w F x c) (hF : ∀ g, g < w.heap.size → F g → g < B) : TyR w B x c :=
  match h with
  | .mk h1 h2 h3 => .mk (h1.to hF) (h2.to hF) (h3.to hF)
theorem TysG.to {x : List Value} {l : List TyD} (h : TysG w F x l) (hF : ∀ g, g < w.heap.size → F g → g < B) : TysR w B x l :=
  match h with
  | .nil => .nil
  | .cons h1 h2 => .cons (h1.to hF) (h2.to hF)
end
mutual
theorem NoG.turn {x : List Value} {c : NoD} (h : NoG w F x c) (t : Turn G w w') (hd : ∀ g, g < w.heap.size → F g → ¬ G g) : NoG w' F x c :=
  match h with
  | .mk h1 h2 h3 h4 h5 => .mk (h1.turn t hd) (h2.turn t hd) (h3.turn t hd) (h4.turn t hd) (h5.turn t hd)
theorem NosG.turn {x : List Value} {l : List NoD} (h : NosG w F x l) (t : Turn G w w') (hd : ∀ g, g < w.heap.size → F g → ¬ G g) : NosG w' F x l :=
  match h with
  | .nil => .nil
  | .cons h1 h2 => .cons (h1.turn t hd) (h2.turn t hd)
end
mutual
theorem NoG.mono {x : List Value} {c : NoD} (h : NoG w F x c) (hF : ∀ g, g < w.heap.size → F g → G g) : NoG w G x c :=
  match h with
  | .mk h1 h2 h3 h4 h5 => .mk (h1.mono hF) (h2.mono hF) (h3.mono hF) (h4.mono hF) (h5.mono hF)
theorem NosG.mono {x : List Value} {l : List NoD} (h : NosG w F x l) (hF : ∀ g, g < w.heap.size → F g → G g) : NosG w G x l :=
  match h with
  | .nil => .nil
  | .cons h1 h2 => .cons (h1.mono hF) (h2.mono hF)
end
mutual
theorem NoG.of {x : List Value} {c : NoD} (h : NoR w B x c) (hB : B ≤ w.heap.size) : NoG w (· < B) x c :=
  match h with
  | .mk h1 h2 h3 h4 h5 => .mk (SlG.of h1 hB) (TysG.of h2 hB) (SlG.of h3 hB) (SlG.of h4 hB) (NosG.of h5 hB)
theorem NosG.of {x : List Value} {l : List NoD} (h : NosR w B x l) (hB : B ≤ w.heap.size) : NosG w (· < B) x l :=
  match h with
  | .nil => .nil
  | .cons h1 h2 => .cons (NoG.of h1 hB) (NosG.of h2 hB)
end
mutual
theorem NoG.to {x : List Value} {c : NoD} (h : NoG w F x c) (hF : ∀ g, g < w.heap.size → F g → g < B) : NoR w B x c :=
  match h with
  | .mk h1 h2 h3 h4 h5 => .mk (h1.to hF) (h2.to hF) (h3.to hF) (h4.to hF) (h5.to hF)
theorem NosG.to {x : List Value} {l : List NoD} (h : NosG w F x l) (hF : ∀ g, g < w.heap.size → F g → g < B) : NosR w B x l :=
  match h with
  | .nil => .nil
  | .cons h1 h2 => .cons (h1.to hF) (h2.to hF)
end
theorem TyG.all {x : List Value} {c : TyD} (h : TyG w F x c) : TyR w w.heap.size x c := h.to fun _ hg _ => hg
theorem TysG.all {x : List Value} {c : List TyD} (h : TysG w F x c) : TysR w w.heap.size x c := h.to fun _ hg _ => hg
theorem NoG.all {x : List Value} {c : NoD} (h : NoG w F x c) : NoR w w.heap.size x c := h.to fun _ hg _ => hg
theorem NosG.all {x : List Value} {c : List NoD} (h : NosG w F x c) : NosR w w.heap.size x c := h.to fun _ hg _ => hg
theorem TyG.bel {x : List Value} {c : TyD} (h : TyG w F x c) (hb : Below w.heap.size w w') : TyG w' F x c := h.turn (Turn.of_below (F := fun _ => False) hb) fun _ _ _ h => h
theorem TysG.bel {x : List Value} {c : List TyD} (h : TysG w F x c) (hb : Below w.heap.size w w') : TysG w' F x c := h.turn (Turn.of_below (F := fun _ => False) hb) fun _ _ _ h => h
theorem NoG.bel {x : List Value} {c : NoD} (h : NoG w F x c) (hb : Below w.heap.size w w') : NoG w' F x c := h.turn (Turn.of_below (F := fun _ => False) hb) fun _ _ _ h => h
theorem NosG.bel {x : List Value} {c : List NoD} (h : NosG w F x c) (hb : Below w.heap.size w w') : NosG w' F x c := h.turn (Turn.of_below (F := fun _ => False) hb) fun _ _ _ h => h
theorem TysG.snoc {y : List Value} {c : TyD} (hc : TyG w F y c) : ∀ {x : List Value} {l : List TyD}, TysG w F x l → TysG w F (x ++ y) (l ++ [c])
  | _, _, .nil => by simpa using TysG.cons hc .nil
  | _, _, .cons h1 h2 => by rw [List.append_assoc, List.cons_append]; exact .cons h1 (TysG.snoc hc h2)
theorem NosG.snoc {y : List Value} {c : NoD} (hc : NoG w F y c) : ∀ {x : List Value} {l : List NoD}, NosG w F x l → NosG w F (x ++ y) (l ++ [c])
  | _, _, .nil => by simpa using NosG.cons hc .nil
  | _, _, .cons h1 h2 => by rw [List.append_assoc, List.cons_append]; exact .cons h1 (NosG.snoc hc h2)
theorem NosG.at : ∀ {x : List Value} {l : List NoD}, NosG w F x l → ∀ (i : Nat) (hi : i < l.length), NoG w F ((x.drop (i * 8)).take 8) l[i]
  | _, _, .nil, i, hi => by simp at hi
  | _, _, .cons (x := x) (y := y) h1 h2, i, hi => by
    have h5 := h1.all.len
    rcases i with _ | i
    · rw [Nat.zero_mul, List.drop_zero, ← h5, List.take_left]; exact h1
    · have : (x ++ y).drop ((i + 1) * 8) = y.drop (i * 8) := by
        rw [show (i + 1) * 8 = x.length + i * 8 by omega, ← List.drop_drop, List.drop_left]
      rw [this]
      exact NosG.at h2 i (by simpa using hi)
end
end Go.Proofs.YtbpedjkebemhnaaGreatDoor
end
section
/- What a function answers whose result is a cell. -/
set_option linter.unusedVariables false
namespace Go.Proofs.YtbpedjkebemhnaaGreatDoor
open Go.RowKit

theorem res_cell {P : Program} {fn : Func} {t : Tmp} {T : TypeId} {tmps : Array Value} {w : World} {b : Nat} {cs : Array Value} {S : TypeId} {d : TypeDesc} (h : fn.results = #[.cell t T]) (ht : tmps.getD t undef = .pointer (some ⟨b, 0, none⟩)) (hb : w.heap[b]? = some (.cells cs S (0, 0)))
    (hu : P.underlying T = some d) (hd : (match d with | .struct _ | .array _ _ => true | _ => false) = true) (hi : (P.info? T).map (·.size) = some cs.size) : (results fn tmps).run P w = .ok (.agg cs) w := by
  have h1 := run_loadVar_row (P := P) w b S T cs (0, 0) d hb hu hd hi
  have e : tmps[t]?.getD undef = .pointer (some ⟨b, 0, none⟩) := by simpa using ht
  have h2 : (asAddr (.pointer (some ⟨b, 0, none⟩))).run P w = .ok ⟨b, 0, none⟩ w := rfl
  simp [results, h, e, h1, h2]
end Go.Proofs.YtbpedjkebemhnaaGreatDoor
end
