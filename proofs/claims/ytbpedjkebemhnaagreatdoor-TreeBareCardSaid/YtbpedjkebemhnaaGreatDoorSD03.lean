/- YX, Shelf, WG, GE, GF, GG, GH -/
import Derived.Test.YtbpedjkebemhnaaGreatDoorSD02
import Derived.Shelf.Strings.Builder1
import Derived.Shelf.Strings.Builder2
import Derived.Shelf.Strings.OnBuilder
import Derived.Shelf.Small.Bits
import Derived.Shelf.Small.Strs
import Derived.Shelf.Strings.BuilderF
import Derived.Shelf.Strings.BuilderK
import Derived.Shelf.Strconv.Atoi
import Derived.Shelf.Strconv.Itoa0
import Derived.Shelf.Strconv.Itoa1
import Derived.Shelf.LaysM
import Derived.Shelf.Strconv.Itoa2
import Derived.Shelf.Strconv.Itoa3
import Derived.Shelf.Strconv.AtoiErrFast
import Derived.Shelf.Strconv.ParseIntEmpty
import Derived.Shelf.Strconv.AtoiFail
import Derived.Shelf.Strconv.Clone
import Derived.Shelf.Strconv.SyntaxError
import Derived.Shelf.LaysC
import Derived.Shelf.Strconv.ToError
import Derived.Shelf.Strconv.Lower
import Derived.Shelf.Strconv.ParseUint10
import Derived.Shelf.Strconv.ParseUint10Empty
import Derived.Shelf.Strconv.ParseUint10Any
import Derived.Shelf.Strconv.ParseInt10
import Derived.Shelf.Strconv.AtoiLong
import Derived.Shelf.Strconv.AtoiInnerAll
import Derived.Shelf.Strconv.RangeError
import Derived.Shelf.Strconv.ToErrorRange
import Derived.Shelf.Strconv.AtoiAll
import Derived.Shelf.Strconv.ErrVarAll
import Derived.Shelf.Strings.Search1
import Derived.Shelf.Strings.Search2
import Derived.Shelf.Strings.Search3
import Derived.Shelf.Strings.Count
import Derived.Shelf.Strings.Shaped
import Derived.Shelf.GgClosure.StringsIndexFunc
import Derived.Shelf.Strings.Split
import Derived.Shelf.Strings.Fields
import Derived.Shelf.Strings.SplitShaped
import Derived.Shelf.Unicode.Latin
import Derived.Shelf.Unicode.Is16White
import Derived.Shelf.Unicode.IsSpaceAny
import Derived.Shelf.Unicode.Is16WhiteD
import Derived.Shelf.Unicode.IsSpaceAnyD
import Derived.Shelf.Strings.FieldsAny
import Derived.Shelf.Strings.FieldsFuncAny
import Derived.Shelf.Unicode.Is16Any
import Derived.Shelf.Unicode.Is32Any
import Derived.Shelf.Unicode.ExclAny
import Derived.Shelf.Slices.Turned
import Derived.Test.YtbpedjkebemhnaaGreatDoorProg
import Derived.Test.YtbpedjkebemhnaaGreatDoorSD01
import Derived.WalkKit
import Derived.WalkSpells
import Derived.WalkLawsBesides
import Derived.RegionTactic
import Derived.Deep.QuietTactic
import Derived.Test.YtbpedjkebemhnaaGreatDoorRows
import Derived.Lib.ConvBytes
import Derived.DeepKeys4
import Derived.Laws.Rows
set_option linter.unusedSimpArgs false
set_option linter.unusedVariables false
section
/- Copies of lists: slices.Clone of types, imports, functions, nodes. -/
set_option linter.unusedVariables false
namespace Go.Proofs.YtbpedjkebemhnaaGreatDoor
open Go.RowKit

theorem own_shape0 {w : World} {base : Nat} {e : TypeId} {k : Nat} {v : Value} {n : Nat} {xs : List Value} (h : w.ownsRow base e k v n xs) : ∃ ao n' cap, v = .slice ao n' cap := by
  rcases h.2 with ⟨hv, _⟩ | ⟨g, cap, cur, hv, _⟩
  · exact ⟨_, _, _, hv⟩
  · exact ⟨_, _, _, hv⟩
theorem el_type : ElemIs Tryz.prog 22 32 (.agg #[.int .i64 0, .string ByteArray.empty, .slice none 0 0, .slice none 0 0]) 4 72 := ⟨Tryz.underlying22, by kernel_rfl, rfl, by omega⟩
set_option maxRecDepth 100000 in
set_option maxHeartbeats 1000000 in
theorem clone_types (w : World) (v : Value) (xs : List Value) (m : Nat) (hv : Sl w w.heap.size 4 v xs) (hm : xs.length = m * 4) (hn : m ≤ 100000) (h1 : ∀ u ∈ xs, u.oneCell' = true) : Calls Tryz.prog 95 #[v] w fun e w' => ∃ v' n', e = .returned v' ∧ w'.ownsRow w.heap.size 32 4 v' n' xs ∧ Below w.heap.size w w' := by
  obtain ⟨A, c, rfl⟩ := t_sl_exact hv (by omega) hm
  have hnl : ∀ (w : World) (A : Option Addr) (n c : Nat), (binOp .eql 22 (.slice A n c) (.slice none 0 0)).run Tryz.prog w = .ok (.bool A.isNone) w := fun w A n c => Lib.run_eql_slice_nil w _ _ A n c 0 0 Tryz.underlying22
  have HV := hid hv
  have H1 := hid h1
  rcases A with _ | A
  · obtain rfl : m = 0 := by
      rcases Nat.eq_zero_or_pos m with h | h
      · exact h
      · obtain ⟨b, o, hA, _⟩ := t_sl_in hv h (by omega)
        cases hA
    obtain rfl : xs = [] := List.eq_nil_of_length_eq_zero (by omega)
    clear hv h1
    go_enter Tryz.func95, Tryz.ntmps95
    go_wp2_with fail
    go_ret
    exact ⟨_, _, rfl, World.ownsRow_nil _ _ _ _, Below.refl _ _⟩
  · have hown : (w.alloc (.cells #[] 32)).ownsRow w.heap.size 32 4 (.slice (some ⟨w.heap.size, 0, none⟩) 0 0) 0 [] := World.ownsRow_made w #[] 0 (Nat.le_refl _) (by simp [maxLen]) rfl
    have hsl := hv.alloc (Nat.le_refl _) (.cells #[] 32)
    have hb0 : Below w.heap.size w (w.alloc (.cells #[] 32)) := (Below.refl _ _).alloc (Nat.le_refl _) _
    have HB0 := hid hb0
    have HOWN := hid hown
    have hl1 : 0 * 4 + xs.length ≤ maxLen := by unfold maxLen; omega
    have hl2 : (0 * 4 + xs.length) * 72 ≤ 140737488355328 := by omega
    clear hv h1 hb0
    go_enter Tryz.func95, Tryz.ntmps95
    go_wp2_with (at_builtin; go_must (refine wpList_app rfl (.tmp 5) (.tmp 6) _ rfl w.heap.size el_type _ _ rfl rfl hown hsl H1.out hl1 hl2 (by simp) (fun v' w' n' hown' hg hbk => ?_)); obtain ⟨A9, n9, c9, rfl⟩ := own_shape0 hown'; have HO := hid hown'; have HG := hid hg; clear hown' hg hbk)
    go_ret
    exact ⟨_, n', rfl, by simpa using HO.out, below_app HB0.out HOWN.out HG.out (Nat.le_refl _) (by simp)⟩
theorem el_import : ElemIs Tryz.prog 36 62 (.agg #[.string ByteArray.empty, .slice none 0 0, .int .i64 0, .int .i64 0]) 4 56 := ⟨Tryz.underlying36, by kernel_rfl, rfl, by omega⟩
set_option maxRecDepth 100000 in
set_option maxHeartbeats 1000000 in
theorem clone_imports (w : World) (v : Value) (xs : List Value) (m : Nat) (hv : Sl w w.heap.size 4 v xs) (hm : xs.length = m * 4) (hn : m ≤ 100000) (h1 : ∀ u ∈ xs, u.oneCell' = true) : Calls Tryz.prog 56 #[v] w fun e w' => ∃ v' n', e = .returned v' ∧ w'.ownsRow w.heap.size 62 4 v' n' xs ∧ Below w.heap.size w w' := by
  obtain ⟨A, c, rfl⟩ := t_sl_exact hv (by omega) hm
  have hnl : ∀ (w : World) (A : Option Addr) (n c : Nat), (binOp .eql 36 (.slice A n c) (.slice none 0 0)).run Tryz.prog w = .ok (.bool A.isNone) w := fun w A n c => Lib.run_eql_slice_nil w _ _ A n c 0 0 Tryz.underlying36
  have HV := hid hv
  have H1 := hid h1
  rcases A with _ | A
  · obtain rfl : m = 0 := by
      rcases Nat.eq_zero_or_pos m with h | h
      · exact h
      · obtain ⟨b, o, hA, _⟩ := t_sl_in hv h (by omega)
        cases hA
    obtain rfl : xs = [] := List.eq_nil_of_length_eq_zero (by omega)
    clear hv h1
    go_enter Tryz.func56, Tryz.ntmps56
    go_wp2_with fail
    go_ret
    exact ⟨_, _, rfl, World.ownsRow_nil _ _ _ _, Below.refl _ _⟩
  · have hown : (w.alloc (.cells #[] 62)).ownsRow w.heap.size 62 4 (.slice (some ⟨w.heap.size, 0, none⟩) 0 0) 0 [] := World.ownsRow_made w #[] 0 (Nat.le_refl _) (by simp [maxLen]) rfl
    have hsl := hv.alloc (Nat.le_refl _) (.cells #[] 62)
    have hb0 : Below w.heap.size w (w.alloc (.cells #[] 62)) := (Below.refl _ _).alloc (Nat.le_refl _) _
    have HB0 := hid hb0
    have HOWN := hid hown
    have hl1 : 0 * 4 + xs.length ≤ maxLen := by unfold maxLen; omega
    have hl2 : (0 * 4 + xs.length) * 56 ≤ 140737488355328 := by omega
    clear hv h1 hb0
    go_enter Tryz.func56, Tryz.ntmps56
    go_wp2_with (at_builtin; go_must (refine wpList_app rfl (.tmp 5) (.tmp 6) _ rfl w.heap.size el_import _ _ rfl rfl hown hsl H1.out hl1 hl2 (by simp) (fun v' w' n' hown' hg hbk => ?_)); obtain ⟨A9, n9, c9, rfl⟩ := own_shape0 hown'; have HO := hid hown'; have HG := hid hg; clear hown' hg hbk)
    go_ret
    exact ⟨_, n', rfl, by simpa using HO.out, below_app HB0.out HOWN.out HG.out (Nat.le_refl _) (by simp)⟩
theorem el_decl : ElemIs Tryz.prog 37 65 (.agg #[.string ByteArray.empty, .bool false, .slice none 0 0, .string ByteArray.empty, .slice none 0 0, .int .i64 0, .string ByteArray.empty, .int .i64 0, .int .i64 0, .int .i64 0, .slice none 0 0, .slice none 0 0, .slice none 0 0, .int .i64 0, .int .i64 0]) 15 224 := ⟨Tryz.underlying37, by kernel_rfl, rfl, by omega⟩
set_option maxRecDepth 100000 in
set_option maxHeartbeats 1000000 in
theorem clone_decls (w : World) (v : Value) (xs : List Value) (m : Nat) (hv : Sl w w.heap.size 15 v xs) (hm : xs.length = m * 15) (hn : m ≤ 100000) (h1 : ∀ u ∈ xs, u.oneCell' = true) : Calls Tryz.prog 57 #[v] w fun e w' => ∃ v' n', e = .returned v' ∧ w'.ownsRow w.heap.size 65 15 v' n' xs ∧ Below w.heap.size w w' := by
  obtain ⟨A, c, rfl⟩ := t_sl_exact hv (by omega) hm
  have hnl : ∀ (w : World) (A : Option Addr) (n c : Nat), (binOp .eql 37 (.slice A n c) (.slice none 0 0)).run Tryz.prog w = .ok (.bool A.isNone) w := fun w A n c => Lib.run_eql_slice_nil w _ _ A n c 0 0 Tryz.underlying37
  have HV := hid hv
  have H1 := hid h1
  rcases A with _ | A
  · obtain rfl : m = 0 := by
      rcases Nat.eq_zero_or_pos m with h | h
      · exact h
      · obtain ⟨b, o, hA, _⟩ := t_sl_in hv h (by omega)
        cases hA
    obtain rfl : xs = [] := List.eq_nil_of_length_eq_zero (by omega)
    clear hv h1
    go_enter Tryz.func57, Tryz.ntmps57
    go_wp2_with fail
    go_ret
    exact ⟨_, _, rfl, World.ownsRow_nil _ _ _ _, Below.refl _ _⟩
  · have hown : (w.alloc (.cells #[] 65)).ownsRow w.heap.size 65 15 (.slice (some ⟨w.heap.size, 0, none⟩) 0 0) 0 [] := World.ownsRow_made w #[] 0 (Nat.le_refl _) (by simp [maxLen]) rfl
    have hsl := hv.alloc (Nat.le_refl _) (.cells #[] 65)
    have hb0 : Below w.heap.size w (w.alloc (.cells #[] 65)) := (Below.refl _ _).alloc (Nat.le_refl _) _
    have HB0 := hid hb0
    have HOWN := hid hown
    have hl1 : 0 * 15 + xs.length ≤ maxLen := by unfold maxLen; omega
    have hl2 : (0 * 15 + xs.length) * 224 ≤ 140737488355328 := by omega
    clear hv h1 hb0
    go_enter Tryz.func57, Tryz.ntmps57
    go_wp2_with (at_builtin; go_must (refine wpList_app rfl (.tmp 5) (.tmp 6) _ rfl w.heap.size el_decl _ _ rfl rfl hown hsl H1.out hl1 hl2 (by simp) (fun v' w' n' hown' hg hbk => ?_)); obtain ⟨A9, n9, c9, rfl⟩ := own_shape0 hown'; have HO := hid hown'; have HG := hid hg; clear hown' hg hbk)
    go_ret
    exact ⟨_, n', rfl, by simpa using HO.out, below_app HB0.out HOWN.out HG.out (Nat.le_refl _) (by simp)⟩
theorem el_node : ElemIs Tryz.prog 24 26 (.agg #[.int .i64 0, .string ByteArray.empty, .int .i64 0, .int .i64 0, .int .i64 0, .slice none 0 0, .slice none 0 0, .slice none 0 0]) 8 120 := ⟨Tryz.underlying24, by kernel_rfl, rfl, by omega⟩
set_option maxRecDepth 100000 in
set_option maxHeartbeats 1000000 in
theorem clone_nodes (w : World) (v : Value) (xs : List Value) (m : Nat) (hv : Sl w w.heap.size 8 v xs) (hm : xs.length = m * 8) (hn : m ≤ 100000) (h1 : ∀ u ∈ xs, u.oneCell' = true) : Calls Tryz.prog 103 #[v] w fun e w' => ∃ v' n', e = .returned v' ∧ w'.ownsRow w.heap.size 26 8 v' n' xs ∧ Below w.heap.size w w' := by
  obtain ⟨A, c, rfl⟩ := t_sl_exact hv (by omega) hm
  have hnl : ∀ (w : World) (A : Option Addr) (n c : Nat), (binOp .eql 24 (.slice A n c) (.slice none 0 0)).run Tryz.prog w = .ok (.bool A.isNone) w := fun w A n c => Lib.run_eql_slice_nil w _ _ A n c 0 0 Tryz.underlying24
  have HV := hid hv
  have H1 := hid h1
  rcases A with _ | A
  · obtain rfl : m = 0 := by
      rcases Nat.eq_zero_or_pos m with h | h
      · exact h
      · obtain ⟨b, o, hA, _⟩ := t_sl_in hv h (by omega)
        cases hA
    obtain rfl : xs = [] := List.eq_nil_of_length_eq_zero (by omega)
    clear hv h1
    go_enter Tryz.func103, Tryz.ntmps103
    go_wp2_with fail
    go_ret
    exact ⟨_, _, rfl, World.ownsRow_nil _ _ _ _, Below.refl _ _⟩
  · have hown : (w.alloc (.cells #[] 26)).ownsRow w.heap.size 26 8 (.slice (some ⟨w.heap.size, 0, none⟩) 0 0) 0 [] := World.ownsRow_made w #[] 0 (Nat.le_refl _) (by simp [maxLen]) rfl
    have hsl := hv.alloc (Nat.le_refl _) (.cells #[] 26)
    have hb0 : Below w.heap.size w (w.alloc (.cells #[] 26)) := (Below.refl _ _).alloc (Nat.le_refl _) _
    have HB0 := hid hb0
    have HOWN := hid hown
    have hl1 : 0 * 8 + xs.length ≤ maxLen := by unfold maxLen; omega
    have hl2 : (0 * 8 + xs.length) * 120 ≤ 140737488355328 := by omega
    clear hv h1 hb0
    go_enter Tryz.func103, Tryz.ntmps103
    go_wp2_with (at_builtin; go_must (refine wpList_app rfl (.tmp 5) (.tmp 6) _ rfl w.heap.size el_node _ _ rfl rfl hown hsl H1.out hl1 hl2 (by simp) (fun v' w' n' hown' hg hbk => ?_)); obtain ⟨A9, n9, c9, rfl⟩ := own_shape0 hown'; have HO := hid hown'; have HG := hid hg; clear hown' hg hbk)
    go_ret
    exact ⟨_, n', rfl, by simpa using HO.out, below_app HB0.out HOWN.out HG.out (Nat.le_refl _) (by simp)⟩
end Go.Proofs.YtbpedjkebemhnaaGreatDoor
end
section
/- The contracts of library functions that this seat reaches, each an application of a theorem of the library at this translation. -/
namespace Go.Proofs
open Go.Shelf
def Tryz.lays156_ren : Go.Shelf.Ren := ⟨fun | 156 => 49 | 165 => 101 | 166 => 48 | 169 => 52 | 240 => 100 | 241 => 133 | 276 => 132 | 277 => 151 | n => n, fun | 31 => 23 | 9 => 9 | 3 => 3 | 4 => 4 | 0 => 0 | 20 => 20 | 72 => 76 | 76 => 79 | 70 => 73 | 37 => 74 | 75 => 78 | 127 => 129 | 164 => 151 | 5 => 5 | 80 => 84 | n => n, fun | n => n⟩
theorem Tryz.lays156 : Go.Proofs.Lays.n156 Tryz.prog Tryz.lays156_ren := {
  mixed := by kernel_rfl
  f156 := Tryz.func49.trans (congrArg some (by kernel_rfl))
  f165 := Tryz.func101.trans (congrArg some (by kernel_rfl))
  f166 := Tryz.func48.trans (congrArg some (by kernel_rfl))
  f169 := Tryz.func52.trans (congrArg some (by kernel_rfl))
  f240 := Tryz.func100.trans (congrArg some (by kernel_rfl))
  f241 := Tryz.func133.trans (congrArg some (by kernel_rfl))
  f276 := Tryz.func132.trans (congrArg some (by kernel_rfl))
  f277 := Tryz.func151.trans (congrArg some (by kernel_rfl))
  t0 := Tryz.underlying0
  a0 := Tryz.isAgg0
  z0 := Tryz.sizeOf0
  v0 := Tryz.zeroValue0
  t3 := Tryz.underlying3
  a3 := Tryz.isAgg3
  z3 := Tryz.sizeOf3
  v3 := Tryz.zeroValue3
  t4 := Tryz.underlying4
  a4 := Tryz.isAgg4
  z4 := Tryz.sizeOf4
  v4 := Tryz.zeroValue4
  t9 := Tryz.underlying9
  a9 := Tryz.isAgg9
  z9 := Tryz.sizeOf9
  v9 := Tryz.zeroValue9
  t20 := Tryz.underlying20
  a20 := Tryz.isAgg20
  z20 := Tryz.sizeOf20
  v20 := Tryz.zeroValue20
  t31 := Tryz.underlying23
  a31 := Tryz.isAgg23
  z31 := Tryz.sizeOf23
  v31 := Tryz.zeroValue23
  t37 := Tryz.underlying74
  a37 := Tryz.isAgg74
  z37 := Tryz.sizeOf74
  v37 := Tryz.zeroValue74
  t70 := Tryz.underlying73
  a70 := Tryz.isAgg73
  z70 := Tryz.sizeOf73
  v70 := Tryz.zeroValue73
  t72 := Tryz.underlying76
  a72 := Tryz.isAgg76
  z72 := Tryz.sizeOf76
  v72 := Tryz.zeroValue76
  t75 := Tryz.underlying78
  a75 := Tryz.isAgg78
  z75 := Tryz.sizeOf78
  v75 := Tryz.zeroValue78
  t76 := Tryz.underlying79
  a76 := Tryz.isAgg79
  z76 := Tryz.sizeOf79
  v76 := Tryz.zeroValue79
  t127 := Tryz.underlying129
  a127 := Tryz.isAgg129
  z127 := Tryz.sizeOf129
  v127 := Tryz.zeroValue129
  t164 := Tryz.underlying151
  a164 := Tryz.isAgg151
  z164 := Tryz.sizeOf151
  v164 := Tryz.zeroValue151 }
theorem Tryz.Builder_Extra_156 : Builder.Extra Tryz.prog Tryz.lays156_ren := {
  sizeBuilder := by kernel_rfl
  liesBuilder := by kernel_rfl
  t5 := Tryz.underlying5
  a5 := Tryz.isAgg5
  z5 := Tryz.sizeOf5
  v5 := Tryz.zeroValue5
  infoByte := by kernel_rfl
  cellsByte := by kernel_rfl
  sizeByte := by kernel_rfl
  neB5 := by decide }
open Go.RowKit in
theorem Tryz.strings_Join_none (a : Option Addr) (c : Nat) (sep : ByteArray) (w : World) :
    Calls Tryz.prog 49 #[.slice a 0 c, .string sep] w fun e w' => e = .returned (.string ⟨#[]⟩) ∧ w' = w := Any.strings_Join_none Tryz.lays156 Tryz.Builder_Extra_156 a c sep w
open Go.RowKit in
theorem Tryz.strings_Join (bk o c : Nat) (xs : List ByteArray) (sep : ByteArray) (w : World) (hcells : ∀ (j : Nat) x, xs[j]? = some x → w.cell? ⟨bk, o + j, none⟩ = some (.string x)) (hbk : bk < w.heap.size) (hN : xs.length ≤ 140737488355328) (hcap : xs.length ≤ c) (hlen : (Lib.join (xs.map (·.data.toList)) sep.data.toList).length ≤ 140737488355328) :
    Calls Tryz.prog 49 #[.slice (some ⟨bk, o, none⟩) xs.length c, .string sep] w fun e w' => e = .returned (.string ⟨(Lib.join (xs.map (·.data.toList)) sep.data.toList).toArray⟩) ∧ Below w.heap.size w w' := Any.strings_Join Tryz.lays156 Tryz.Builder_Extra_156 bk o c xs sep w hcells hbk hN hcap hlen
def Tryz.laysM171_ren : Go.Shelf.Ren := ⟨fun | 171 => 144 | 243 => 158 | 246 => 175 | 283 => 189 | 284 => 190 | 285 => 191 | 286 => 192 | 129 => 173 | 317 => 203 | 318 => 204 | 319 => 205 | 320 => 206 | 337 => 215 | 338 => 216 | n => n, fun | 3 => 3 | 9 => 9 | 2 => 2 | 4 => 4 | 171 => 230 | 0 => 0 | 53 => 213 | 37 => 74 | 5 => 5 | 173 => 232 | 212 => 258 | 51 => 146 | 20 => 20 | 213 => 259 | 46 => 130 | 232 => 289 | 233 => 290 | n => n, fun | 17 => 5 | 18 => 6 | 19 => 7 | n => n⟩
theorem Tryz.laysM171 : Go.Proofs.LaysM.n171 Tryz.prog Tryz.laysM171_ren := {
  mixed := by kernel_rfl
  f129 := Tryz.func173.trans (congrArg some (by kernel_rfl))
  f171 := Tryz.func144.trans (congrArg some (by kernel_rfl))
  f243 := Tryz.func158.trans (congrArg some (by kernel_rfl))
  f246 := Tryz.func175.trans (congrArg some (by kernel_rfl))
  f283 := Tryz.func189.trans (congrArg some (by kernel_rfl))
  f284 := Tryz.func190.trans (congrArg some (by kernel_rfl))
  f285 := Tryz.func191.trans (congrArg some (by kernel_rfl))
  f286 := Tryz.func192.trans (congrArg some (by kernel_rfl))
  f317 := Tryz.func203.trans (congrArg some (by kernel_rfl))
  f318 := Tryz.func204.trans (congrArg some (by kernel_rfl))
  f319 := Tryz.func205.trans (congrArg some (by kernel_rfl))
  f320 := Tryz.func206.trans (congrArg some (by kernel_rfl))
  f337 := Tryz.func215.trans (congrArg some (by kernel_rfl))
  f338 := Tryz.func216.trans (congrArg some (by kernel_rfl))
  t0 := Tryz.underlying0
  a0 := Tryz.isAgg0
  z0 := Tryz.sizeOf0
  v0 := Tryz.zeroValue0
  t2 := Tryz.underlying2
  a2 := Tryz.isAgg2
  z2 := Tryz.sizeOf2
  v2 := Tryz.zeroValue2
  t3 := Tryz.underlying3
  a3 := Tryz.isAgg3
  z3 := Tryz.sizeOf3
  v3 := Tryz.zeroValue3
  t4 := Tryz.underlying4
  a4 := Tryz.isAgg4
  z4 := Tryz.sizeOf4
  v4 := Tryz.zeroValue4
  t5 := Tryz.underlying5
  a5 := Tryz.isAgg5
  z5 := Tryz.sizeOf5
  v5 := Tryz.zeroValue5
  t9 := Tryz.underlying9
  a9 := Tryz.isAgg9
  z9 := Tryz.sizeOf9
  v9 := Tryz.zeroValue9
  t20 := Tryz.underlying20
  a20 := Tryz.isAgg20
  z20 := Tryz.sizeOf20
  v20 := Tryz.zeroValue20
  t37 := Tryz.underlying74
  a37 := Tryz.isAgg74
  z37 := Tryz.sizeOf74
  v37 := Tryz.zeroValue74
  t46 := Tryz.underlying130
  a46 := Tryz.isAgg130
  z46 := Tryz.sizeOf130
  v46 := Tryz.zeroValue130
  t51 := Tryz.underlying146
  a51 := Tryz.isAgg146
  z51 := Tryz.sizeOf146
  v51 := Tryz.zeroValue146
  t53 := Tryz.underlying213
  a53 := Tryz.isAgg213
  z53 := Tryz.sizeOf213
  v53 := Tryz.zeroValue213
  t171 := Tryz.underlying230
  a171 := Tryz.isAgg230
  z171 := Tryz.sizeOf230
  v171 := Tryz.zeroValue230
  t173 := Tryz.underlying232
  a173 := Tryz.isAgg232
  z173 := Tryz.sizeOf232
  v173 := Tryz.zeroValue232
  t212 := Tryz.underlying258
  a212 := Tryz.isAgg258
  z212 := Tryz.sizeOf258
  v212 := Tryz.zeroValue258
  t213 := Tryz.underlying259
  a213 := Tryz.isAgg259
  z213 := Tryz.sizeOf259
  t232 := Tryz.underlying289
  a232 := Tryz.isAgg289
  z232 := Tryz.sizeOf289
  v232 := Tryz.zeroValue289
  t233 := Tryz.underlying290
  a233 := Tryz.isAgg290
  z233 := Tryz.sizeOf290
  v233 := Tryz.zeroValue290
  g17 := by kernel_rfl
  g18 := by kernel_rfl
  g19 := by kernel_rfl
  i0 := by kernel_rfl
  i2 := by kernel_rfl
  i3 := by kernel_rfl
  i4 := by kernel_rfl
  i5 := by kernel_rfl
  i9 := by kernel_rfl
  i20 := by kernel_rfl
  i37 := by kernel_rfl
  i46 := by kernel_rfl
  i51 := by kernel_rfl
  i53 := by kernel_rfl
  i171 := by kernel_rfl
  i173 := by kernel_rfl
  i212 := by kernel_rfl
  i232 := by kernel_rfl
  i233 := by kernel_rfl
  m17 := by kernel_rfl
  m18 := by kernel_rfl
  m19 := by kernel_rfl }
open Go.RowKit Go.Sort Go.Lib in
theorem Tryz.strconv_Itoa (n : Int) (h0 : -9223372036854775808 ≤ n) (h1 : n ≤ 9223372036854775807) (w : World) (htab : Lib.TabIs Tryz.prog w "internal/strconv.uint64pow10" .u64 Lib.pow10Tab) :
    Calls Tryz.prog 144 #[.int .i64 n] w fun e w' => e = .returned (.string ⟨(Lib.itoa n).toArray⟩) ∧ ∃ k os, w' = grow (w.drewN k) os := Any.strconv_Itoa Tryz.laysM171 n h0 h1 w htab
def Tryz.lays138_ren : Go.Shelf.Ren := ⟨fun | 138 => 264 | 195 => 265 | 218 => 266 | 143 => 267 | 219 => 268 | 217 => 153 | 225 => 269 | 224 => 270 | 267 => 271 | 266 => 163 | 314 => 272 | n => n, fun | 9 => 9 | 3 => 3 | 4 => 4 | 5 => 5 | 0 => 0 | 46 => 130 | 146 => 322 | 51 => 146 | n => n, fun | 1 => 2 | n => n⟩
theorem Tryz.lays138 : Go.Proofs.Lays.n138 Tryz.prog Tryz.lays138_ren := {
  mixed := by kernel_rfl
  f138 := Tryz.func264.trans (congrArg some (by kernel_rfl))
  f143 := Tryz.func267.trans (congrArg some (by kernel_rfl))
  f195 := Tryz.func265.trans (congrArg some (by kernel_rfl))
  f217 := Tryz.func153.trans (congrArg some (by kernel_rfl))
  f218 := Tryz.func266.trans (congrArg some (by kernel_rfl))
  f219 := Tryz.func268.trans (congrArg some (by kernel_rfl))
  f224 := Tryz.func270.trans (congrArg some (by kernel_rfl))
  f225 := Tryz.func269.trans (congrArg some (by kernel_rfl))
  f266 := Tryz.func163.trans (congrArg some (by kernel_rfl))
  f267 := Tryz.func271.trans (congrArg some (by kernel_rfl))
  f314 := Tryz.func272.trans (congrArg some (by kernel_rfl))
  t0 := Tryz.underlying0
  a0 := Tryz.isAgg0
  z0 := Tryz.sizeOf0
  v0 := Tryz.zeroValue0
  t3 := Tryz.underlying3
  a3 := Tryz.isAgg3
  z3 := Tryz.sizeOf3
  v3 := Tryz.zeroValue3
  t4 := Tryz.underlying4
  a4 := Tryz.isAgg4
  z4 := Tryz.sizeOf4
  v4 := Tryz.zeroValue4
  t5 := Tryz.underlying5
  a5 := Tryz.isAgg5
  z5 := Tryz.sizeOf5
  v5 := Tryz.zeroValue5
  t9 := Tryz.underlying9
  a9 := Tryz.isAgg9
  z9 := Tryz.sizeOf9
  v9 := Tryz.zeroValue9
  t46 := Tryz.underlying130
  a46 := Tryz.isAgg130
  z46 := Tryz.sizeOf130
  v46 := Tryz.zeroValue130
  t51 := Tryz.underlying146
  a51 := Tryz.isAgg146
  z51 := Tryz.sizeOf146
  v51 := Tryz.zeroValue146
  t146 := Tryz.underlying322
  a146 := Tryz.isAgg322
  z146 := Tryz.sizeOf322
  v146 := Tryz.zeroValue322
  g1 := by kernel_rfl }
open Go.RowKit Go.Lib in
theorem Tryz.strings_Count_one (s : ByteArray) (c : UInt8) (w : World) :
    Calls Tryz.prog 264 #[.string s, .string ⟨#[c]⟩] w fun e w' => e = .returned (.int .i64 (Lib.countByte s.data.toList c)) ∧ w' = w := Any.strings_Count_one Tryz.lays138 s c w
def Tryz.lays157_ren : Go.Shelf.Ren := ⟨fun | 157 => 40 | 229 => 85 | 199 => 86 | 261 => 128 | 311 => 149 | 312 => 150 | n => n, fun | 9 => 9 | 31 => 23 | 3 => 3 | 5 => 5 | 4 => 4 | 119 => 120 | 0 => 0 | 40 => 122 | 152 => 143 | 21 => 21 | 154 => 145 | 51 => 146 | 141 => 148 | 196 => 173 | 193 => 170 | 198 => 176 | 49 => 174 | 194 => 171 | 201 => 179 | 226 => 201 | 46 => 130 | 227 => 202 | n => n, fun | 0 => 0 | 6 => 1 | n => n⟩
theorem Tryz.lays157 : Go.Proofs.Lays.n157 Tryz.prog Tryz.lays157_ren := {
  mixed := by kernel_rfl
  f157 := Tryz.func40.trans (congrArg some (by kernel_rfl))
  f199 := Tryz.func86.trans (congrArg some (by kernel_rfl))
  f229 := Tryz.func85.trans (congrArg some (by kernel_rfl))
  f261 := Tryz.func128.trans (congrArg some (by kernel_rfl))
  f311 := Tryz.func149.trans (congrArg some (by kernel_rfl))
  f312 := Tryz.func150.trans (congrArg some (by kernel_rfl))
  t0 := Tryz.underlying0
  a0 := Tryz.isAgg0
  z0 := Tryz.sizeOf0
  v0 := Tryz.zeroValue0
  t3 := Tryz.underlying3
  a3 := Tryz.isAgg3
  z3 := Tryz.sizeOf3
  v3 := Tryz.zeroValue3
  t4 := Tryz.underlying4
  a4 := Tryz.isAgg4
  z4 := Tryz.sizeOf4
  v4 := Tryz.zeroValue4
  t5 := Tryz.underlying5
  a5 := Tryz.isAgg5
  z5 := Tryz.sizeOf5
  v5 := Tryz.zeroValue5
  t9 := Tryz.underlying9
  a9 := Tryz.isAgg9
  z9 := Tryz.sizeOf9
  v9 := Tryz.zeroValue9
  t21 := Tryz.underlying21
  a21 := Tryz.isAgg21
  z21 := Tryz.sizeOf21
  v21 := Tryz.zeroValue21
  t31 := Tryz.underlying23
  a31 := Tryz.isAgg23
  z31 := Tryz.sizeOf23
  v31 := Tryz.zeroValue23
  t40 := Tryz.underlying122
  a40 := Tryz.isAgg122
  z40 := Tryz.sizeOf122
  v40 := Tryz.zeroValue122
  t46 := Tryz.underlying130
  a46 := Tryz.isAgg130
  z46 := Tryz.sizeOf130
  v46 := Tryz.zeroValue130
  t49 := Tryz.underlying174
  a49 := Tryz.isAgg174
  z49 := Tryz.sizeOf174
  v49 := Tryz.zeroValue174
  t51 := Tryz.underlying146
  a51 := Tryz.isAgg146
  z51 := Tryz.sizeOf146
  v51 := Tryz.zeroValue146
  t119 := Tryz.underlying120
  a119 := Tryz.isAgg120
  z119 := Tryz.sizeOf120
  t141 := Tryz.underlying148
  a141 := Tryz.isAgg148
  z141 := Tryz.sizeOf148
  v141 := Tryz.zeroValue148
  t152 := Tryz.underlying143
  a152 := Tryz.isAgg143
  z152 := Tryz.sizeOf143
  v152 := Tryz.zeroValue143
  t154 := Tryz.underlying145
  a154 := Tryz.isAgg145
  z154 := Tryz.sizeOf145
  v154 := Tryz.zeroValue145
  t193 := Tryz.underlying170
  a193 := Tryz.isAgg170
  z193 := Tryz.sizeOf170
  v193 := Tryz.zeroValue170
  t194 := Tryz.underlying171
  a194 := Tryz.isAgg171
  z194 := Tryz.sizeOf171
  v194 := Tryz.zeroValue171
  t196 := Tryz.underlying173
  a196 := Tryz.isAgg173
  z196 := Tryz.sizeOf173
  v196 := Tryz.zeroValue173
  t198 := Tryz.underlying176
  a198 := Tryz.isAgg176
  z198 := Tryz.sizeOf176
  v198 := Tryz.zeroValue176
  t201 := Tryz.underlying179
  a201 := Tryz.isAgg179
  z201 := Tryz.sizeOf179
  v201 := Tryz.zeroValue179
  t226 := Tryz.underlying201
  a226 := Tryz.isAgg201
  z226 := Tryz.sizeOf201
  v226 := Tryz.zeroValue201
  t227 := Tryz.underlying202
  a227 := Tryz.isAgg202
  z227 := Tryz.sizeOf202
  v227 := Tryz.zeroValue202
  g0 := by kernel_rfl
  g6 := by kernel_rfl }
open Go.RowKit Go.Lib in
theorem Tryz.strings_Fields (s : ByteArray) (w : World) (hs : s.size < 4294967281) (hascii : ∀ (j : Nat) b, s.data.toList[j]? = some b → b.toNat < 128) (htab : Lib.TabIs Tryz.prog w "strings.asciiSpace" .u8 Lib.asciiSpaceTab) :
    Calls Tryz.prog 40 #[.string s] w fun e w' =>
      e = .returned (.slice (some ⟨w.heap.size, 0, none⟩) (Lib.fields s.data.toList).length (Lib.fields s.data.toList).length) ∧ w' = w.alloc (.cells ((Lib.fields s.data.toList).map fun l => Value.string ⟨l.toArray⟩).toArray 9) := Any.strings_Fields Tryz.lays157 (by kernel_rfl) (by kernel_rfl) s w hs hascii htab
def Tryz.lays107_ren : Go.Shelf.Ren := ⟨fun | 107 => 127 | 108 => 148 | n => n, fun | 28 => 141 | 3 => 3 | 4 => 4 | 0 => 0 | n => n, fun | n => n⟩
theorem Tryz.lays107 : Go.Proofs.Lays.n107 Tryz.prog Tryz.lays107_ren := {
  mixed := by kernel_rfl
  f107 := Tryz.func127.trans (congrArg some (by kernel_rfl))
  f108 := Tryz.func148.trans (congrArg some (by kernel_rfl))
  t0 := Tryz.underlying0
  a0 := Tryz.isAgg0
  z0 := Tryz.sizeOf0
  v0 := Tryz.zeroValue0
  t3 := Tryz.underlying3
  a3 := Tryz.isAgg3
  z3 := Tryz.sizeOf3
  v3 := Tryz.zeroValue3
  t4 := Tryz.underlying4
  a4 := Tryz.isAgg4
  z4 := Tryz.sizeOf4
  v4 := Tryz.zeroValue4
  t28 := Tryz.underlying141
  a28 := Tryz.isAgg141
  z28 := Tryz.sizeOf141
  v28 := Tryz.zeroValue141 }
open Go.Lib in
theorem Tryz.slices_Contains_int (b off n c : Nat) (zs : List Int) (x : Int) (w : World) (hz : n ≤ zs.length) (hbig : n ≤ 9223372036854775807) (hc : ∀ j, j < zs.length → w.cell? ⟨b, off + j, none⟩ = some (.int .i64 (zs.getD j 0))) :
    Calls Tryz.prog 127 #[.slice (some ⟨b, off, none⟩) n c, .int .i64 x] w fun e w' => e = .returned (.bool ((zs.take n).contains x)) ∧ w' = w := Any.slices_Contains_int Tryz.lays107 b off n c zs x w hz hbig hc
end Go.Proofs
end
section
/- The contracts of word's Show and Parse. -/
set_option linter.unusedVariables false
namespace Go.Proofs.YtbpedjkebemhnaaGreatDoor
open Go.RowKit

theorem below_grow (w : World) (k : Nat) (os : Array Obj) : Below w.heap.size w (Sort.grow (w.drewN k) os) :=
  ⟨rfl, rfl, rfl, by simp [Sort.grow], fun i hi => by simp only [Sort.grow, World.heap_drewN]; rw [Array.getElem?_append, if_pos hi]⟩

/-- What the listed variables of the library hold. -/
structure LaidW (w : World) : Prop where
  tab : Lib.TabIs Tryz.prog w "internal/strconv.uint64pow10" .u64 Lib.pow10Tab
  syn : ∃ tp p, w.var? Tryz.prog "strconv.ErrSyntax" = some #[.iface tp p]
  rng : ∃ tp p, w.var? Tryz.prog "strconv.ErrRange" = some #[.iface tp p]
theorem var_below {w w' : World} {name : String} {cs : Array Value} (h : w.var? Tryz.prog name = some cs) (hb : Below w.heap.size w w') : w'.var? Tryz.prog name = some cs := by
  unfold World.var? at h ⊢
  cases hg : Tryz.prog.globalNamed name with
  | none => rw [hg] at h; cases h
  | some g =>
    rw [hg] at h
    simp only [Option.bind_some] at h ⊢
    by_cases hlt : g < w.heap.size
    · rw [hb.block g hlt]; exact h
    · rw [Array.getElem?_eq_none (by omega)] at h; cases h
theorem LaidW.below {w w' : World} (h : LaidW w) (hb : Below w.heap.size w w') : LaidW w' := by
  obtain ⟨h1, ⟨tp, p, h2⟩, ⟨tp', p', h3⟩⟩ := h
  exact ⟨var_below h1 hb, ⟨tp, p, var_below h2 hb⟩, ⟨tp', p', var_below h3 hb⟩⟩
theorem LaidW.drewN {w : World} (h : LaidW w) (n : Nat) : LaidW (w.drewN n) := h.below ⟨rfl, rfl, rfl, Nat.le_refl _, fun _ _ => rfl⟩

set_option maxHeartbeats 400000 in
theorem show_tab (n : Int) (w : World) (hn : In64 n) (htab : Lib.TabIs Tryz.prog w "internal/strconv.uint64pow10" .u64 Lib.pow10Tab) :
    Calls Tryz.prog 121 #[.int .i64 n] w fun e w' => e = .returned (sv (Lib.itoa n)) ∧ Below w.heap.size w w' := by
  go_enter Tryz.func121, Tryz.ntmps121
  go_wp2_with (go_at_call 144; refine (Tryz.strconv_Itoa n hn.1 hn.2 _ htab).mono ?_; rintro e w' ⟨rfl, k, os, rfl⟩)
  go_ret
  exact ⟨rfl, below_grow _ _ _⟩
end Go.Proofs.YtbpedjkebemhnaaGreatDoor
end
section
/- Texts that belong together: XA, XB, XC, XD. -/
/- The contracts of lex's functions on bytes, and of how many bytes are of a sort. -/
set_option linter.unusedVariables false
namespace Go.Proofs.YtbpedjkebemhnaaGreatDoor
open Go.RowKit

theorem letter_any (c : UInt8) (w : World) : Calls Tryz.prog 87 #[.int .u8 (c.toNat : Int)] w fun e w' => e = .returned (.bool (letterB c)) ∧ w' = w := by
  unfold letterB
  generalize c.toNat = n
  go_enter Tryz.func87, Tryz.ntmps87
  go_wp2_with fail
  all_goals
    go_ret
    refine ⟨?_, rfl⟩
    congr 2
    try simp
    try omega
    try (rw [Bool.eq_iff_iff]; simp only [Bool.or_eq_true, Bool.and_eq_true, decide_eq_true_eq, beq_iff_eq]; omega)
theorem digit_any (c : UInt8) (w : World) : Calls Tryz.prog 110 #[.int .u8 (c.toNat : Int)] w fun e w' => e = .returned (.bool (digitB c)) ∧ w' = w := by
  unfold digitB
  generalize c.toNat = n
  go_enter Tryz.func110, Tryz.ntmps110
  go_wp2_with fail
  all_goals
    go_ret
    refine ⟨?_, rfl⟩
    congr 2
    try simp
    try omega
    try (rw [Bool.eq_iff_iff]; simp only [Bool.or_eq_true, Bool.and_eq_true, decide_eq_true_eq, beq_iff_eq]; omega)
theorem inner_any (c : UInt8) (w : World) : Calls Tryz.prog 89 #[.int .u8 (c.toNat : Int)] w fun e w' => e = .returned (.bool (innerB c)) ∧ w' = w := by
  have hi : innerB c = (letterB c || digitB c) := rfl
  rw [hi]
  clear hi
  cases hl : letterB c
  · go_enter Tryz.func89, Tryz.ntmps89
    go_wp2_with fail
    refine (letter_any c _).mono ?_
    rintro e w1 ⟨rfl, rfl⟩
    rw [hl]
    go_wp2_with fail
    refine (digit_any c _).mono ?_
    rintro e w1 ⟨rfl, rfl⟩
    go_wp2_with fail
    go_ret
    exact ⟨rfl, rfl⟩
  · go_enter Tryz.func89, Tryz.ntmps89
    go_wp2_with fail
    refine (letter_any c _).mono ?_
    rintro e w1 ⟨rfl, rfl⟩
    rw [hl]
    go_wp2_with fail
    go_ret
    exact ⟨rfl, rfl⟩

theorem sv_size (s : Bt) : (ByteArray.mk s.toArray).size = s.length := by simp [ByteArray.size]
theorem sv_index (s : Bt) (k : Nat) (h : k < s.length) : (ByteArray.mk s.toArray)[k]'(by rw [sv_size]; exact h) = s[k] := by simp [ByteArray.getElem_eq_getElem_data]

set_option maxHeartbeats 400000 in
theorem row_inner (s : Bt) (w : World) (hs : s.length ≤ 281474976710656) : Calls Tryz.prog 88 #[sv s, .func (.func 89) #[] #[]] w fun e w' => e = .returned (.int .i64 (rowL innerB s : Nat)) ∧ w' = w := by
  have hsz := sv_size s
  go_enter Tryz.func88, Tryz.ntmps88
  go_wp2_with fail
  go_loop [5, 8] (fun v5 v8 => ∃ k : Nat, v8 = .int .i64 k ∧ k ≤ s.length ∧ ∀ j (hj : j < s.length), j < k → innerB s[j] = true) (fun _ v8 => s.length - (intOf v8).toNat)
  case atStart => exact ⟨0, rfl, by omega, fun j hj h => by omega⟩
  case round =>
    obtain ⟨k, rfl, hk, hall⟩ := hrel
    by_cases hlt : k < s.length
    · have hix := sv_index s k hlt
      have hrow := fun hn => rowL_at (p := innerB) hlt (fun j hj => hall j (by omega) hj) hn
      have hnext : innerB s[k] = true → ∀ j (hj : j < s.length), j < k + 1 → innerB s[j] = true := by
        intro h j hj hjk
        rcases Nat.lt_or_ge j k with h1 | h1
        · exact hall j hj h1
        · obtain rfl : j = k := by omega
          exact h
      have HROW := hid hrow
      have HNEXT := hid hnext
      clear hall hrow hnext
      generalize hX : s[k] = X at *
      cases hq : innerB X
      · have hres := HROW.out hq
        go_wp2_with fail
        refine (inner_any X _).mono ?_
        rintro e w1 ⟨rfl, rfl⟩
        rw [hq]
        go_wp2_with fail
        go_ret
        exact ⟨by rw [hres]; rfl, rfl⟩
      · have hall := HNEXT.out hq
        have HALL := hid hall
        clear hall
        go_wp2_with fail
        refine (inner_any X _).mono ?_
        rintro e w1 ⟨rfl, rfl⟩
        rw [hq]
        go_wp2_with fail
        go_round
        case rel => exact ⟨k + 1, rfl, by omega, HALL.out⟩
        case measure => simp [intOf]; omega
    · obtain rfl : k = s.length := by omega
      have hres := rowL_all (p := innerB) (s := s) (fun j hj => hall j hj hj)
      clear hall
      go_wp2_with fail
      go_ret
      first | exact ⟨rfl, rfl⟩ | exact ⟨by rw [hres]; rfl, rfl⟩

end Go.Proofs.YtbpedjkebemhnaaGreatDoor

/- The contracts of lex's words, of the library's Index over texts, and of how a lexer passes over bytes. -/
set_option linter.unusedVariables false
namespace Go.Proofs.YtbpedjkebemhnaaGreatDoor
open Go.RowKit

theorem el_str : ElemIs Tryz.prog 23 9 (sv []) 1 16 := ⟨Tryz.underlying23, by kernel_rfl, rfl, by decide⟩
/-- What the listed variables hold that a lexer looks at. -/
def LaidX (w : World) : Prop := LaidW w ∧ Lib.TabIs Tryz.prog w "strings.asciiSpace" .u8 Lib.asciiSpaceTab
/-- The tables alone. -/
def LaidT (w : World) : Prop := Lib.TabIs Tryz.prog w "internal/strconv.uint64pow10" .u64 Lib.pow10Tab ∧ Lib.TabIs Tryz.prog w "strings.asciiSpace" .u8 Lib.asciiSpaceTab
theorem LaidT.below {w w' : World} (h : LaidT w) (hb : Below w.heap.size w w') : LaidT w' := ⟨var_below h.1 hb, var_below h.2 hb⟩
theorem LaidX.t {w : World} (h : LaidX w) : LaidT w := ⟨h.1.tab, h.2⟩
theorem LaidX.below {w w' : World} (h : LaidX w) (hb : Below w.heap.size w w') : LaidX w' := ⟨h.1.below hb, var_below h.2 hb⟩

def wordsT : Bt := [97, 110, 100, 32, 97, 110, 121, 32, 97, 115, 32, 98, 111, 111, 108, 32, 101, 108, 115, 101, 32, 101, 120, 112, 111, 114, 116, 32, 102, 97, 108, 115, 101, 32, 102, 110, 32, 102, 117, 110, 99, 116, 105, 111, 110, 32, 105, 102, 32, 105, 109, 112, 111, 114, 116, 32, 105, 110, 32, 105, 110, 116, 32, 105, 115, 32, 108, 101, 116, 32, 110, 111, 116, 32, 110, 117, 108, 108, 32, 111, 114, 32, 112, 114, 105, 110, 116, 32, 114, 101, 97, 100, 32, 114, 101, 99, 111, 114, 100, 32, 115, 116, 114, 32, 116, 104, 101, 110, 32, 116, 114, 117, 101, 32, 119, 105, 116, 104]
set_option maxRecDepth 100000 in
theorem words_fields : Lib.fields wordsT = wordsL := by kernel_rfl
set_option maxRecDepth 100000 in
theorem words_ascii : (wordsT.all fun b => decide (b.toNat < 128)) = true := by kernel_rfl
theorem words_list : (⟨wordsT.toArray⟩ : ByteArray).data.toList = wordsT := rfl
set_option maxRecDepth 100000 in
theorem words_any (w : World) (hL : LaidT w) : Calls Tryz.prog 91 #[] w fun e w' => ∃ v, e = .returned v ∧ Ss w' w'.heap.size v wordsL ∧ Below w.heap.size w w' := by
  go_enter Tryz.func91, Tryz.ntmps91
  go_wp2_with fail
  refine (Tryz.strings_Fields ⟨wordsT.toArray⟩ _ ?h1 ?h2 hL.2).mono ?_
  case h1 => decide
  case h2 =>
    intro j b hb
    rw [words_list] at hb
    exact of_decide_eq_true (List.all_eq_true.1 words_ascii b (List.mem_of_getElem? hb))
  rintro e w1 ⟨rfl, rfl⟩
  rw [words_list, words_fields]
  have hss : Ss (w.alloc (.cells (wordsL.map fun l => Value.string ⟨l.toArray⟩).toArray 9)) (w.alloc (.cells (wordsL.map fun l => Value.string ⟨l.toArray⟩).toArray 9)).heap.size (.slice (some ⟨w.heap.size, 0, none⟩) wordsL.length wordsL.length) wordsL := by
    have := sl_new w (wordsL.map fun l => Value.string ⟨l.toArray⟩).toArray 9 1 wordsL.length (by simp) (by decide)
    rw [World.size_alloc]
    simpa [Ss, svs] using this
  have hb : Below w.heap.size w (w.alloc (.cells (wordsL.map fun l => Value.string ⟨l.toArray⟩).toArray 9)) := (Below.refl _ _).alloc (Nat.le_refl _) _
  generalize (w.alloc (.cells (wordsL.map fun l => Value.string ⟨l.toArray⟩).toArray 9)) = w2 at *
  generalize wordsL.length = n at *
  go_wp2_with fail
  go_ret
  exact ⟨_, rfl, hss, hb⟩

set_option maxHeartbeats 400000 in
theorem index_any (v : Value) (l : List Bt) (x : Bt) (w : World) (hv : Ss w w.heap.size v l) :
    Calls Tryz.prog 129 #[v, sv x] w fun e w' => (∃ k : Int, e = .returned (.int .i64 k) ∧ (0 ≤ k ↔ x ∈ l)) ∧ w' = w := by
  obtain ⟨A, c, rfl, hn, hc, hx⟩ := hv.open_
  unfold maxLen at hc
  go_enter Tryz.func129, Tryz.ntmps129
  go_wp2_with fail
  go_loop [5, 8] (fun v5 v8 => ∃ k : Nat, v8 = .int .i64 k ∧ k ≤ l.length ∧ x ∉ l.take k) (fun _ v8 => l.length - (intOf v8).toNat)
  case atStart => exact ⟨0, rfl, by omega, by simp⟩
  case round =>
    obtain ⟨k, rfl, hk, hnot⟩ := hrel
    by_cases hlt : k < l.length
    · obtain ⟨b, o, rfl, hb, hcell⟩ := hx (by omega)
      have d1 := hcell k hlt
      have e1 : x = l[k] → x ∈ l := fun h => by rw [h]; exact List.getElem_mem hlt
      have e2 : ¬ x = l[k] → x ∉ l.take (k + 1) := fun h hh => by
        rw [List.take_succ_eq_append_getElem hlt, List.mem_append] at hh
        rcases hh with hh | hh
        · exact hnot hh
        · simp at hh; exact h hh
      clear hcell hx hv hnot
      generalize l[k] = X at *
      by_cases hX : x = X
      · have e3 := e1 hX
        have hq : (x == X) = true := by rw [beq_iff_eq]; exact hX
        clear hX e1 e2
        go_wp2_with fail
        go_ret
        exact ⟨⟨k, rfl, by simp [e3]⟩, rfl⟩
      · have e3 := e2 hX
        have hq : (x == X) = false := by rw [beq_eq_false_iff_ne]; exact hX
        clear hX e1 e2
        go_wp2_with fail
        go_round
        case rel => exact ⟨k + 1, rfl, by omega, e3⟩
        case measure => simp [intOf]; omega
    · obtain rfl : k = l.length := by omega
      rw [List.take_length] at hnot
      go_wp2_with fail
      go_ret
      exact ⟨⟨-1, rfl, by simp [hnot]⟩, rfl⟩
theorem contains_any (v : Value) (l : List Bt) (x : Bt) (w : World) (hv : Ss w w.heap.size v l) :
    Calls Tryz.prog 90 #[v, sv x] w fun e w' => e = .returned (.bool (decide (x ∈ l))) ∧ w' = w := by
  go_enter Tryz.func90, Tryz.ntmps90
  go_wp2_with fail
  refine (index_any v l x _ hv).mono ?_
  rintro e w1 ⟨⟨k, rfl, hk⟩, rfl⟩
  by_cases h : x ∈ l
  · have h0 := hk.2 h
    clear hk
    go_wp2_with fail
    go_ret
    exact ⟨by simp [h], rfl⟩
  · have h0 : ¬ (0 ≤ k) := fun hh => h (hk.1 hh)
    clear hk
    go_wp2_with fail
    go_ret
    exact ⟨by first | (simp [h]; done) | (simp [h]; exact h0) | (simp [h]; omega), rfl⟩
end Go.Proofs.YtbpedjkebemhnaaGreatDoor

/- A lexer in memory; how it passes over bytes. -/
set_option linter.unusedVariables false
namespace Go.Proofs.YtbpedjkebemhnaaGreatDoor
open Go.RowKit

/-- Block bl is a lexer: what is left of its text, where it stands, its map of pairs, its tokens. -/
def LexAt (w : World) (bl bp : Nat) (s : Bt) (p : Nat × Nat) (outv : Value) : Prop :=
  w.heap[bl]? = some (.cells #[sv s, .int .i64 (p.1 : Nat), .int .i64 (p.2 : Nat), .map (some bp), outv] 96 (0, 0))
section
variable {w w' : World} {bl bp : Nat} {s : Bt} {p : Nat × Nat} {outv : Value}
theorem LexAt.c0 (h : LexAt w bl bp s p outv) : w.cell? ⟨bl, 0, none⟩ = some (sv s) := (cell_of_row _ _ _ _ _ (0, 0) h).trans rfl
theorem LexAt.c1 (h : LexAt w bl bp s p outv) : w.cell? ⟨bl, 1, none⟩ = some (.int .i64 (p.1 : Nat)) := (cell_of_row _ _ _ _ _ (0, 0) h).trans rfl
theorem LexAt.c2 (h : LexAt w bl bp s p outv) : w.cell? ⟨bl, 2, none⟩ = some (.int .i64 (p.2 : Nat)) := (cell_of_row _ _ _ _ _ (0, 0) h).trans rfl
theorem LexAt.c3 (h : LexAt w bl bp s p outv) : w.cell? ⟨bl, 3, none⟩ = some (.map (some bp)) := (cell_of_row _ _ _ _ _ (0, 0) h).trans rfl
theorem LexAt.c4 (h : LexAt w bl bp s p outv) : w.cell? ⟨bl, 4, none⟩ = some outv := (cell_of_row _ _ _ _ _ (0, 0) h).trans rfl
theorem LexAt.free (h : LexAt w bl bp s p outv) (i : Nat) : w.frozen? ⟨bl, i, none⟩ = false := by simp [World.frozen?, show w.heap[bl]? = _ from h]
theorem LexAt.lt (h : LexAt w bl bp s p outv) : bl < w.heap.size := block_lt h
theorem LexAt.turn {G : Nat → Prop} (h : LexAt w bl bp s p outv) (t : Turn G w w') (hd : ¬ G bl) : LexAt w' bl bp s p outv := block_turn h t hd
end
end Go.Proofs.YtbpedjkebemhnaaGreatDoor

/- How a lexer goes over blanks. -/
set_option linter.unusedVariables false
namespace Go.Proofs.YtbpedjkebemhnaaGreatDoor
open Go.RowKit

theorem skipOne_le (s : Bt) : skipOne s ≤ s.length := by
  unfold skipOne
  have h1 := rowL_le blankB s
  split
  · have h2 := rowL_le notLine (s.drop (rowL blankB s))
    rw [List.length_drop] at h2; omega
  · omega
theorem blank_step (s : Bt) (p : Nat × Nat) : s.drop (skipL s) = (s.drop (skipOne s)).drop (skipL (s.drop (skipOne s))) ∧ advL p (s.take (skipL s)) = advL (advL p (s.take (skipOne s))) ((s.drop (skipOne s)).take (skipL (s.drop (skipOne s)))) := by
  have h := skip_one s
  generalize skipL (s.drop (skipOne s)) = m at *
  rw [h]
  refine ⟨by rw [List.drop_drop], ?_⟩
  rw [List.take_add, advL_append]

def textOf (w : World) (bl : Nat) : Nat := match w.cell? ⟨bl, 0, none⟩ with | some (.string b) => b.size | _ => 0
theorem textOf_at {w : World} {bl bp : Nat} {s : Bt} {p : Nat × Nat} {outv : Value} (h : LexAt w bl bp s p outv) : textOf w bl = s.length := by
  unfold textOf; rw [h.c0]; exact sv_size s

/-- What the round over blanks keeps. -/
def BlankRel (w : World) (bl bp : Nat) (s : Bt) (p : Nat × Nat) (outv : Value) (wr : World) : Prop :=
  ∃ (c : Bt) (q : Nat × Nat), LexAt wr bl bp c q outv ∧ Turn (fun k => k = bl) w wr ∧ c.length ≤ s.length ∧ s.drop (skipL s) = c.drop (skipL c) ∧ advL p (s.take (skipL s)) = advL q (c.take (skipL c)) ∧
    q.1 + c.length ≤ p.1 + s.length ∧ q.2 + c.length ≤ p.2 + s.length ∧ 1 ≤ q.2

theorem advL_le2 {p : Nat × Nat} (s : Bt) (h : 1 ≤ p.2) : (advL p s).1 ≤ p.1 + s.length ∧ (advL p s).2 ≤ p.2 + s.length ∧ 1 ≤ (advL p s).2 := by
  induction s generalizing p with
  | nil => exact ⟨Nat.le_refl _, Nat.le_refl _, h⟩
  | cons c s ih =>
    have h0 : advL p (c :: s) = advL (advB p c) s := rfl
    rw [h0]
    have h1 : (advB p c).1 ≤ p.1 + 1 ∧ (advB p c).2 ≤ p.2 + 1 ∧ 1 ≤ (advB p c).2 := by
      unfold advB; split
      · exact ⟨Nat.le_refl _, by show 1 ≤ _; omega, Nat.le_refl _⟩
      · exact ⟨Nat.le_succ _, Nat.le_refl _, by show 1 ≤ _ + 1; omega⟩
    obtain ⟨a, b, d⟩ := ih h1.2.2
    simp only [List.length_cons]
    omega
theorem BlankRel.step {w wr w2 : World} {bl bp : Nat} {s c : Bt} {p q : Nat × Nat} {outv : Value} (htr : Turn (fun k => k = bl) w wr) (hcl : c.length ≤ s.length) (hd : s.drop (skipL s) = c.drop (skipL c)) (ha : advL p (s.take (skipL s)) = advL q (c.take (skipL c)))
    (hq1 : q.1 + c.length ≤ p.1 + s.length) (hq2 : q.2 + c.length ≤ p.2 + s.length) (hq3 : 1 ≤ q.2) (h : LexAt w2 bl bp (c.drop (skipOne c)) (advL q (c.take (skipOne c))) outv) (ht : Turn (fun k => k = bl) wr w2) (h0 : 0 < skipOne c) :
    BlankRel w bl bp s p outv w2 ∧ textOf w2 bl < c.length := by
  obtain ⟨e1, e2⟩ := blank_step c q
  have hone := skipOne_le c
  have hl := advL_le2 (c.take (skipOne c)) hq3
  rw [List.length_take, Nat.min_eq_left hone] at hl
  refine ⟨⟨_, _, h, htr.trans ht (fun _ _ h => h), ?_, hd.trans e1, ha.trans e2, ?_, ?_, hl.2.2⟩, ?_⟩
  · rw [List.length_drop]; omega
  · rw [List.length_drop]; omega
  · rw [List.length_drop]; omega
  · rw [textOf_at h, List.length_drop]; omega

end Go.Proofs.YtbpedjkebemhnaaGreatDoor
end
section
/- Texts that belong together: XE, XF, XG, XH. -/
/- A lexer's names and numbers. -/
set_option linter.unusedVariables false
namespace Go.Proofs.YtbpedjkebemhnaaGreatDoor
open Go.RowKit

end Go.Proofs.YtbpedjkebemhnaaGreatDoor

/- How lex reads a string. -/
set_option linter.unusedVariables false
namespace Go.Proofs.YtbpedjkebemhnaaGreatDoor
open Go.RowKit

theorem el_byte : ElemIs Tryz.prog 74 5 (.int .u8 0) 1 1 := ⟨Tryz.underlying74, by kernel_rfl, rfl, by decide⟩
end Go.Proofs.YtbpedjkebemhnaaGreatDoor

/- A lexer's strings and signs, and the token at the beginning. -/
set_option linter.unusedVariables false
namespace Go.Proofs.YtbpedjkebemhnaaGreatDoor
open Go.RowKit
open Go.Maps (has IsMap Keyed)

/-! The map of pairs. -/
def pairV (a b : UInt8) : Value := .agg #[.int .u8 (a.toNat : Int), .int .u8 (b.toNat : Int)]
/-- What the map holds when the pairs of l are in it. -/
def PairsOf (D : DataW Unit) (l : List Bt) : Prop := ∀ (a b : UInt8) (kl : Lit), keyOf Tryz.prog 134 (pairV a b) = some kl → ∀ z, D.atKey kl z = if [a, b] ∈ l then .lit (.bool true) else z
def PairsAt (w : World) (bp : Nat) (l : List Bt) : Prop := ∃ (n : Nat) (D : DataW Unit), n ≤ l.length ∧ w.ownsMap Tryz.prog 134 (plainElem Tryz.prog 4) bp n D ∧ PairsOf D l
theorem PairsAt.turn {w w' : World} {bp : Nat} {l : List Bt} {G : Nat → Prop} (h : PairsAt w bp l) (t : Turn G w w') (hd : ¬ G bp) : PairsAt w' bp l := by
  obtain ⟨n, D, h0, h1, h2⟩ := h
  exact ⟨n, D, h0, map_turn h1 t hd, h2⟩
end Go.Proofs.YtbpedjkebemhnaaGreatDoor

/- The token that a lexer's text begins with; the map of pairs is made. -/
set_option linter.unusedVariables false
namespace Go.Proofs.YtbpedjkebemhnaaGreatDoor
open Go.RowKit
open Go.Maps (has IsMap Keyed)

end Go.Proofs.YtbpedjkebemhnaaGreatDoor
end
section
/- Texts that belong together: XI, XJ, XK. -/
/- The map of pairs is made. -/
set_option linter.unusedVariables false
namespace Go.Proofs.YtbpedjkebemhnaaGreatDoor
open Go.RowKit
open Go.Maps (has IsMap Keyed)

end Go.Proofs.YtbpedjkebemhnaaGreatDoor

/- Lex's own state in memory, and what a round of it keeps. -/
set_option linter.unusedVariables false
namespace Go.Proofs.YtbpedjkebemhnaaGreatDoor
open Go.RowKit

def tokV (t : TokD) : List Value := [.int .i64 t.kind, sv t.text, .int .i64 (t.line : Nat), .int .i64 (t.col : Nat)]
def tokCells (l : List TokD) : List Value := l.flatMap tokV
theorem tokCells_snoc (l : List TokD) (t : TokD) : tokCells (l ++ [t]) = tokCells l ++ tokV t := by
  unfold tokCells; rw [List.flatMap_append]; simp
/-- The tokens from behind the blanks on. -/
def lexB (f : Nat) (s1 : Bt) (p1 : Nat × Nat) (out : List TokD) : List TokD × (Nat × Nat × Int) :=
  if s1 = [] then (out ++ [⟨0, [], p1.1, p1.2⟩], (0, 0, 0)) else
  match nextT s1 with
  | .inl e => ([], (p1.1, p1.2, e))
  | .inr (kd, t, n) => if out.length = 8192 then ([], (p1.1, p1.2, 19)) else lexF f (s1.drop n) (advL p1 (s1.take n)) (out ++ [⟨kd, t, p1.1, p1.2⟩])
theorem lexF_succ (f : Nat) (s : Bt) (p : Nat × Nat) (out : List TokD) : lexF (f + 1) s p out = lexB f (s.drop (skipL s)) (advL p (s.take (skipL s))) out := rfl
/-- What a round keeps: where all lies, and that the tokens to come with those at hand are the answer. -/
structure LexR (base bd bl bp N : Nat) (ans : List TokD × (Nat × Nat × Int)) (wr : World) (f : Nat) (s1 : Bt) (p1 : Nat × Nat) (outv : Value) (out : List TokD) : Prop where
  diag : wr.heap[bd]? = some (.cells #[.int .i64 0, .int .i64 0, .int .i64 0, .int .i64 0] 51 (0, 0))
  lex : LexAt wr bl bp s1 p1 outv
  pairs : PairsAt wr bp pairsL
  row : wr.ownsRow 0 55 4 outv out.length (tokCells out)
  fuel : s1.length ≤ f
  eq : lexB f s1 p1 out = ans
  b1 : p1.1 + s1.length ≤ N
  b2 : p1.2 + s1.length ≤ N
  b3 : 1 ≤ p1.2
  outl : out.length ≤ 8192
  hd : base ≤ bd
  hl : base ≤ bl
  hp : base ≤ bp
  dl : bd ≠ bl
  dp : bd ≠ bp
  lp : bl ≠ bp
  fo : ∀ g, outv.ownBlock = some g → base ≤ g ∧ g ≠ bd ∧ g ≠ bl ∧ g ≠ bp
theorem LexR.below {base bd bl bp N : Nat} {ans : List TokD × (Nat × Nat × Int)} {w w' : World} {f : Nat} {s1 : Bt} {p1 : Nat × Nat} {outv : Value} {out : List TokD} (h : LexR base bd bl bp N ans w f s1 p1 outv out) (hb : Below w.heap.size w w') : LexR base bd bl bp N ans w' f s1 p1 outv out :=
  { h with
    diag := block_turn h.diag (Turn.of_below (F := fun _ => False) hb) id
    lex := h.lex.turn (Turn.of_below (F := fun _ => False) hb) id
    pairs := h.pairs.turn (Turn.of_below (F := fun _ => False) hb) id
    row := own_below h.row hb }
/-- A token has been put behind the others, the bytes of it passed over, and the blanks behind it. -/
theorem LexR.next {base bd bl bp N : Nat} {ans : List TokD × (Nat × Nat × Int)} {w w' : World} {f : Nat} {s1 : Bt} {p1 : Nat × Nat} {outv outv' : Value} {out : List TokD} (h : LexR base bd bl bp N ans w f s1 p1 outv out)
    {kd : Int} {t : Bt} {n : Nat} (hn : nextT s1 = .inr (kd, t, n)) (ho : out.length ≠ 8192)
    (hrow : w'.ownsRow 0 55 4 outv' (out.length + 1) (tokCells out ++ tokV ⟨kd, t, p1.1, p1.2⟩)) (hfo : ∀ g, outv'.ownBlock = some g → base ≤ g ∧ g ≠ bd ∧ g ≠ bl ∧ g ≠ bp)
    (hdiag : w'.heap[bd]? = some (.cells #[.int .i64 0, .int .i64 0, .int .i64 0, .int .i64 0] 51 (0, 0))) (hpairs : PairsAt w' bp pairsL)
    (hlex : LexAt w' bl bp ((s1.drop n).drop (skipL (s1.drop n))) (advL (advL p1 (s1.take n)) ((s1.drop n).take (skipL (s1.drop n)))) outv') :
    ∃ f' s2 p2 out', LexR base bd bl bp N ans w' f' s2 p2 outv' out' ∧ s2.length < s1.length := by
  obtain ⟨n1, n2⟩ := nextT_le hn
  have hne : s1 ≠ [] := by intro e; subst e; simp at n2; omega
  have hf := h.fuel
  obtain ⟨f', rfl⟩ : ∃ f', f = f' + 1 := ⟨f - 1, by omega⟩
  have heq := h.eq
  unfold lexB at heq
  rw [if_neg hne, hn] at heq
  simp only at heq
  rw [if_neg ho, lexF_succ] at heq
  have l1 := advL_le2 (s1.take n) h.b3
  rw [List.length_take, Nat.min_eq_left n2] at l1
  have hsk := skipG_le false (s1.drop n)
  have hsk' : skipL (s1.drop n) ≤ s1.length - n := by rw [List.length_drop] at hsk; exact hsk
  have l2 := advL_le2 ((s1.drop n).take (skipL (s1.drop n))) l1.2.2
  have hb1 := h.b1
  have hb2 := h.b2
  have hol := h.outl
  have ht : ((s1.drop n).take (skipL (s1.drop n))).length = skipL (s1.drop n) := by rw [List.length_take, List.length_drop]; omega
  rw [ht] at l2
  have hlen : ((s1.drop n).drop (skipL (s1.drop n))).length = s1.length - n - skipL (s1.drop n) := by rw [List.length_drop, List.length_drop]
  refine ⟨f', _, _, out ++ [⟨kd, t, p1.1, p1.2⟩], ⟨hdiag, hlex, hpairs, ?_, by rw [hlen]; omega, heq, by rw [hlen]; omega, by rw [hlen]; omega, l2.2.2, by simp; omega, h.hd, h.hl, h.hp, h.dl, h.dp, h.lp, hfo⟩, by rw [hlen]; omega⟩
  rw [tokCells_snoc, List.length_append]
  exact hrow
end Go.Proofs.YtbpedjkebemhnaaGreatDoor

/- The contract of lex's Lex. -/
set_option linter.unusedVariables false
namespace Go.Proofs.YtbpedjkebemhnaaGreatDoor
open Go.RowKit

theorem block_free {w : World} {b : Nat} {cs : Array Value} {t : TypeId} (h : w.heap[b]? = some (.cells cs t (0, 0))) (i : Nat) : w.frozen? ⟨b, i, none⟩ = false := by
  simp [World.frozen?, h]
end Go.Proofs.YtbpedjkebemhnaaGreatDoor
end
section
/- Texts that belong together: XL, XR. -/
/- The contract of lex's Name. -/
set_option linter.unusedVariables false
namespace Go.Proofs.YtbpedjkebemhnaaGreatDoor
open Go.RowKit

set_option maxRecDepth 100000 in
set_option maxHeartbeats 1000000 in
theorem name_any (w : World) (s : Bt) (hX : LaidT w) (hs : s.length ≤ 281474976710656) : Calls Tryz.prog 41 #[sv s] w fun e w' => e = .returned (.bool (nameL s)) ∧ Below w.heap.size w w' := by
  have hsz := sv_size s
  cases s with
  | nil =>
    have ha : nameL [] = false := rfl
    rw [ha]
    go_enter Tryz.func41, Tryz.ntmps41
    go_wp2_with fail
    go_ret
    exact ⟨rfl, Below.refl _ _⟩
  | cons c r =>
    have hix : (ByteArray.mk (c :: r).toArray)[0]'(by rw [sv_size]; simp) = c := sv_index (c :: r) 0 (by simp)
    have hl0 : (0 : Int) < (r.length : Int) + 1 := by omega
    have hnz : ((c :: r : Bt) == []) = false := rfl
    have ha : nameL (c :: r) = (decide ((c :: r).length ≤ 32) && letterB c && decide (rowL innerB (c :: r) = (c :: r).length) && !decide ((c :: r) ∈ wordsL)) := rfl
    have HROW := hid (row_inner (c :: r) w hs)
    generalize rowL innerB (c :: r) = n at *
    by_cases h32 : (c :: r).length ≤ 32
    · have h32' : (r.length : Int) + 1 ≤ 32 := by simp only [List.length_cons] at h32; omega
      rw [decide_eq_true h32, Bool.true_and] at ha
      clear h32
      cases hl : letterB c
      · rw [hl] at ha
        simp only [Bool.false_and] at ha
        rw [ha]
        clear ha
        go_enter Tryz.func41, Tryz.ntmps41
        go_wp2_with fail
        refine (letter_any c _).mono ?_
        rintro e w1 ⟨rfl, rfl⟩
        rw [hl]
        go_wp2_with fail
        go_ret
        exact ⟨rfl, Below.refl _ _⟩
      · rw [hl, Bool.true_and] at ha
        by_cases hn : n = (c :: r).length
        · rw [decide_eq_true hn, Bool.true_and] at ha
          have hn' : (n : Int) = (r.length : Int) + 1 := by rw [hn]; simp
          clear hn
          rw [ha]
          clear ha
          generalize hq : decide ((c :: r) ∈ wordsL) = q
          go_enter Tryz.func41, Tryz.ntmps41
          go_wp2_with fail
          refine (letter_any c _).mono ?_
          rintro e w1 ⟨rfl, rfl⟩
          rw [hl]
          go_wp2_with fail
          refine HROW.out.mono ?_
          rintro e w2 ⟨rfl, rfl⟩
          go_wp2_with fail
          refine (words_any _ hX).mono ?_
          rintro e w3 ⟨v3, rfl, hss3, hb3⟩
          go_wp2_with fail
          refine (contains_any v3 wordsL (c :: r) _ hss3).mono ?_
          rintro e w4 ⟨rfl, rfl⟩
          rw [hq]
          go_wp2_with fail
          go_ret
          exact ⟨rfl, hb3⟩
        · rw [decide_eq_false hn, Bool.false_and] at ha
          have hn' : ¬ (n : Int) = (r.length : Int) + 1 := by intro h; apply hn; simp; omega
          clear hn
          rw [ha]
          clear ha
          go_enter Tryz.func41, Tryz.ntmps41
          go_wp2_with fail
          refine (letter_any c _).mono ?_
          rintro e w1 ⟨rfl, rfl⟩
          rw [hl]
          go_wp2_with fail
          refine HROW.out.mono ?_
          rintro e w2 ⟨rfl, rfl⟩
          go_wp2_with fail
          go_ret
          exact ⟨rfl, Below.refl _ _⟩
    · have h32' : ¬ (r.length : Int) + 1 ≤ 32 := by simp only [List.length_cons] at h32; omega
      rw [decide_eq_false h32] at ha
      simp only [Bool.false_and] at ha
      clear h32
      rw [ha]
      clear ha
      go_enter Tryz.func41, Tryz.ntmps41
      go_wp2_with fail
      go_ret
      exact ⟨rfl, Below.refl _ _⟩
end Go.Proofs.YtbpedjkebemhnaaGreatDoor

/- The contracts of the reference's Words, word, letter, digit and Name. -/
set_option linter.unusedVariables false
namespace Go.Proofs.YtbpedjkebemhnaaGreatDoor
open Go.RowKit

end Go.Proofs.YtbpedjkebemhnaaGreatDoor
end
