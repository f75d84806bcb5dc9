/- YH, MA, ShelfB, YF, UM, UN -/
import Derived.Test.YtbpedjkebemhnaaGreatDoorSC07
import Derived.Test.YtbpedjkebemhnaaGreatDoorSC01
import Derived.Lib.AppendStr
import Derived.Shelf.Strings.Builder1
import Derived.Shelf.Strings.Builder2
import Derived.Shelf.Strings.OnBuilder
import Derived.Shelf.Small.Bits
import Derived.Shelf.Small.Strs
import Derived.Shelf.Strings.BuilderF
import Derived.Shelf.Strings.BuilderK
import Derived.Shelf.Strconv.Atoi
import Derived.Shelf.Strconv.Itoa0
import Derived.Shelf.Strconv.Itoa1
import Derived.Shelf.LaysM
import Derived.Shelf.Strconv.Itoa2
import Derived.Shelf.Strconv.Itoa3
import Derived.Shelf.Strconv.AtoiErrFast
import Derived.Shelf.Strconv.ParseIntEmpty
import Derived.Shelf.Strconv.AtoiFail
import Derived.Shelf.Strconv.Clone
import Derived.Shelf.Strconv.SyntaxError
import Derived.Shelf.LaysC
import Derived.Shelf.Strconv.ToError
import Derived.Shelf.Strconv.Lower
import Derived.Shelf.Strconv.ParseUint10
import Derived.Shelf.Strconv.ParseUint10Empty
import Derived.Shelf.Strconv.ParseUint10Any
import Derived.Shelf.Strconv.ParseInt10
import Derived.Shelf.Strconv.AtoiLong
import Derived.Shelf.Strconv.AtoiInnerAll
import Derived.Shelf.Strconv.RangeError
import Derived.Shelf.Strconv.ToErrorRange
import Derived.Shelf.Strconv.AtoiAll
import Derived.Shelf.Strconv.ErrVarAll
import Derived.Shelf.Strings.Search1
import Derived.Shelf.Strings.Search2
import Derived.Shelf.Strings.Search3
import Derived.Shelf.Strings.Count
import Derived.Shelf.Strings.Shaped
import Derived.Shelf.GgClosure.StringsIndexFunc
import Derived.Shelf.Strings.Split
import Derived.Shelf.Strings.Fields
import Derived.Shelf.Strings.SplitShaped
import Derived.Shelf.Unicode.Latin
import Derived.Shelf.Unicode.Is16White
import Derived.Shelf.Unicode.IsSpaceAny
import Derived.Shelf.Unicode.Is16WhiteD
import Derived.Shelf.Unicode.IsSpaceAnyD
import Derived.Shelf.Strings.FieldsAny
import Derived.Shelf.Strings.FieldsFuncAny
import Derived.Shelf.Unicode.Is16Any
import Derived.Shelf.Unicode.Is32Any
import Derived.Shelf.Unicode.ExclAny
import Derived.Shelf.Slices.Turned
import Derived.Test.YtbpedjkebemhnaaGreatDoorProg
import Derived.Test.YtbpedjkebemhnaaGreatDoorSC02
import Derived.Test.YtbpedjkebemhnaaGreatDoorSC05
import Derived.Test.YtbpedjkebemhnaaGreatDoorSC04
import Derived.Test.YtbpedjkebemhnaaGreatDoorSC06
set_option linter.unusedSimpArgs false
set_option linter.unusedVariables false
section
/- May a module be printed: tree.May. -/
set_option linter.unusedVariables false
namespace Go.Proofs.YtbpedjkebemhnaaGreatDoor
open Go.RowKit

/-- A module of not too many of anything. -/
structure SmM (m : MoD) : Prop where
  imps : m.imps.length ≤ 100
  decls : m.decls.length ≤ 100
  names : ∀ i ∈ m.imps, i.names.length ≤ 100
  vars : ∀ d ∈ m.decls, d.vars.length ≤ 100
  types : ∀ d ∈ m.decls, d.types.length ≤ 100
  bounds : ∀ d ∈ m.decls, ∀ v ∈ d.vars, cntT v.bound ≤ 100000
  sorts : ∀ d ∈ m.decls, cntTs d.types ≤ 100000
  body : ∀ d ∈ m.decls, cntN d.body ≤ 100000
/-- An import in a list: its cells. -/
theorem imp_at {w : World} {B : Nat} {A : Option Addr} {n c : Nat} {xs : List Value} {l : List ImD} (hs : Sl w B 4 (.slice A n c) xs) (hr : TRow (ImR w B) 4 xs l) {i : Nat} (hi : i < l.length) (hn : n = l.length) :
    ∃ b o A1 c1, A = some ⟨b, o, none⟩ ∧ Ss w B (.slice A1 l[i].names.length c1) l[i].names ∧ w.cell? ⟨b, o + i * 4, none⟩ = some (sv l[i].from_) ∧ w.cell? ⟨b, o + i * 4 + 1, none⟩ = some (.slice A1 l[i].names.length c1) ∧ w.cell? ⟨b, o + i * 4 + 2, none⟩ = some (.int .i64 l[i].line) ∧ w.cell? ⟨b, o + i * 4 + 3, none⟩ = some (.int .i64 l[i].col) := by
  obtain ⟨b, o, z, hA, hb, ⟨vn, rfl, hv⟩, hc⟩ := row_at hs hr (by omega) hi hn
  obtain ⟨A1, c1, rfl⟩ := t_sl_exact hv (by omega) (m := l[i].names.length) (by rw [svs_length]; omega)
  exact ⟨b, o, A1, c1, hA, hv, by simpa using hc 0 _ rfl, hc 1 _ rfl, hc 2 _ rfl, hc 3 _ rfl⟩
theorem t_row2 {w : World} {b : Nat} {x0 x1 : Value} {T : TypeId} (h : w.heap[b]? = some (.cells #[x0, x1] T (0, 0))) : w.cell? ⟨b, 0, none⟩ = some x0 ∧ w.cell? ⟨b, 1, none⟩ = some x1 :=
  ⟨(cell_of_row _ _ _ _ _ _ h).trans rfl, (cell_of_row _ _ _ _ _ _ h).trans rfl⟩
theorem impB_eq (i : ImD) : impB i = (nameL i.from_ && decide (0 < i.names.length) && i.names.all nameL) := by
  unfold impB
  cases i.names with
  | nil => rfl
  | cons x l => simp
set_option maxRecDepth 100000 in
set_option maxHeartbeats 8000000 in
theorem tmay_any (m : MoD) (w : World) (z : List Value) (hr : MoR w w.heap.size z m) (hok : okM m) (hX : LaidT w) (hS : SmM m) :
    Calls Tryz.prog 21 #[.agg z.toArray] w fun e w' => e = .returned (.bool (mayB m)) ∧ Below w.heap.size w w' := by
  obtain ⟨A1, c1, A2, c2, xi, xd, rfl, s1, r1, s2, r2⟩ := hr.parts
  have hres : mayB m = (m.imps.all impB && m.decls.all declB) := rfl
  obtain ⟨res, hre⟩ : ∃ res, mayB m = res := ⟨_, rfl⟩
  rw [hre] at hres ⊢
  have HRES := hid hres
  clear hres hre hr
  have l1 := (t_sl_len s1).2
  have l2 := (t_sl_len s2).2
  obtain ⟨W, hW⟩ : ∃ W, w.alloc (.cells #[.slice A1 m.imps.length c1, .slice A2 m.decls.length c2] 39) = W := ⟨_, rfl⟩
  have hb1 : Below w.heap.size w W := by rw [← hW]; exact (Below.refl _ _).alloc (Nat.le_refl _) _
  have HBX : Hid (W.heap[w.heap.size]? = some (.cells #[.slice A1 m.imps.length c1, .slice A2 m.decls.length c2] 39 (0, 0))) := hid (by rw [← hW]; exact heap_alloc_new w _)
  have HX := hid (fun (w1 : World) (h : Below W.heap.size W w1) => (hX.below hb1).below h)
  have HI := hid (And.intro (Sl.more (Sl.below s1 hb1) hb1.size) (r1.imp fun _ _ h => (h.keep hb1).more hb1.size))
  have HC := hid (fun (w1 : World) (h : Below W.heap.size W w1) => contains_decls 44 (fun _ _ => by kernel_rfl) #[] (fun d => !declB d) _ m.decls xd w1 (Sl.more (Sl.below s2 (hb1.trans (h.mono hb1.size))) (hb1.trans (h.mono hb1.size)).size) (r2.imp fun _ _ h2 => (h2.keep (hb1.trans (h.mono hb1.size))).more (hb1.trans (h.mono hb1.size)).size) (fun y hy w2 z2 hb hz => may1_any y w2 z2 hz (hok.2 y hy) (HX.out w2 (h.trans (hb.mono h.size))) (by have := hS.vars y hy; omega) (hS.body y hy)))
  have HOI := hid hok.1
  have HB1 := hid hb1
  have HWE := hid hW
  obtain ⟨is, his⟩ : ∃ x, m.imps = x := ⟨_, rfl⟩
  obtain ⟨a, hA⟩ : ∃ a, is.length = a := ⟨_, rfl⟩
  rw [any_not] at HC
  rw [his] at HI HRES HOI l1
  rw [his, hA] at HBX hW
  rw [hA] at HI l1
  rw [his, hA]
  have HA := hid hA
  generalize m.decls.all declB = q at *
  generalize m.decls.length = d at *
  clear s1 r1 s2 r2 hX hok hS hb1 his hA HWE
  clear m
  obtain ⟨g0, g1⟩ := t_row2 HBX.out
  go_enter Tryz.func21, Tryz.ntmps21
  go_wp2_with fail
  clear g0 g1
  go_loopw [8] (fun v8 wr => ∃ i : Nat, v8 = .int .i64 i ∧ i ≤ a ∧ (is.take i).all impB = true ∧ Below W.heap.size W wr) (fun v8 _ => a - (intOf v8).toNat)
  case atStart => exact ⟨0, rfl, by omega, rfl, Below.refl _ _⟩
  case round =>
    obtain ⟨i, rfl, hi, hall, hbr⟩ := hrel
    have HAL := hid hall
    have HBR := hid hbr
    clear hall
    by_cases hlt : i < a
    · have hil : i < is.length := by rw [HA.out]; exact hlt
      obtain ⟨b2, o2, A6, c6, hA6, hn6, d0, d1, d2, d3⟩ := imp_at (Sl.more (Sl.below HI.out.1 hbr) hbr.size) (HI.out.2.imp fun _ _ h => (h.keep hbr).more hbr.size) hil HA.out.symm
      obtain ⟨wA, hwA⟩ : ∃ wA, wr.alloc (.cells #[sv is[i].from_, .slice A6 is[i].names.length c6, .int .i64 is[i].line, .int .i64 is[i].col] 62) = wA := ⟨_, rfl⟩
      have hbA : Below wr.heap.size wr wA := by rw [← hwA]; exact (Below.refl _ _).alloc (Nat.le_refl _) _
      have HSA : Hid (wA.heap[wr.heap.size]? = some (.cells #[sv is[i].from_, .slice A6 is[i].names.length c6, .int .i64 is[i].line, .int .i64 is[i].col] 62 (0, 0))) := hid (by rw [← hwA]; exact heap_alloc_new wr _)
      have hoi := HOI.out _ (List.getElem_mem hil)
      have HN := hid (name_all wA is[i].from_ (HX.out wA (hbr.trans (hbA.mono hbr.size))) hoi.1)
      have HNS := hid (fun (w1 : World) (h : Below wA.heap.size wA w1) => tnamed_any _ is[i].names w1 (Ss.more (Ss.below hn6 (hbA.trans (h.mono hbA.size))) (hbA.trans (h.mono hbA.size)).size) hoi.2.1 (HX.out w1 (hbr.trans ((hbA.trans (h.mono hbA.size)).mono hbr.size))))
      have HBA := hid hbA
      have hst := t_take hil
      have hl6 := (t_sl_len hn6).2
      have HYES : Hid (impB is[i] = true → (is.take (i + 1)).all impB = true) := hid (fun h => by rw [hst, List.all_append, HAL.out]; simp [h])
      have HNO : Hid (impB is[i] = false → is.all impB = false) := hid (fun hq => by
        cases h : is.all impB with
        | false => rfl
        | true => rw [List.all_eq_true] at h; rw [h _ (List.getElem_mem hil)] at hq; cases hq)
      have himp := impB_eq is[i]
      rw [himp] at HYES HNO
      generalize nameL is[i].from_ = q1 at *
      generalize is[i].names.all nameL = q2 at *
      generalize is[i].names.length = k at *
      generalize is[i].from_ = X at *
      generalize is[i].line = li at *
      generalize is[i].col = co at *
      clear hoi hbA hbr hn6 hst himp
      subst hA6
      obtain ⟨f0, f1, f2, f3⟩ := t_row4 HSA.out
      go_wp2_with fail
      clear hwA d0 d1 d2 d3 f0 f1 f2 f3
      refine HN.out.mono ?_
      rintro e w6 ⟨rfl, hb⟩
      have HB6 := hid hb
      have HR6 := hid (HBR.out.trans ((HBA.out.trans (hb.mono HBA.out.size)).mono HBR.out.size))
      obtain ⟨f0, f1, f2, f3⟩ := t_row4 ((hb.block _ (block_lt HSA.out)).trans HSA.out)
      clear hb
      cases q1 with
      | false =>
        have HF : Hid (res = false) := hid (by rw [HRES.out, HNO.out rfl]; rfl)
        go_wp2_with fail
        go_ret
        exact ⟨by rw [HF.out]; rfl, HB1.out.trans (HR6.out.mono HB1.out.size)⟩
      | true =>
        by_cases hk : k = 0
        · have gk : ((k : Int) == 0) = true := by rw [beq_iff_eq]; omega
          have HF : Hid (res = false) := hid (by rw [HRES.out, HNO.out (by rw [hk]; rfl)]; rfl)
          clear hk
          go_wp2_with fail
          go_ret
          exact ⟨by rw [HF.out]; rfl, HB1.out.trans (HR6.out.mono HB1.out.size)⟩
        · have gk : ((k : Int) == 0) = false := by rw [beq_eq_false_iff_ne]; omega
          have HK : Hid (decide (0 < k) = true) := hid (decide_eq_true (by omega))
          clear hk
          go_wp2_with fail
          refine (HNS.out _ HB6.out).mono ?_
          rintro e w7 ⟨rfl, hb⟩
          have HR7 := hid (HR6.out.trans (hb.mono HR6.out.size))
          clear hb f0 f1 f2 f3
          cases q2 with
          | false =>
            have HF : Hid (res = false) := hid (by rw [HRES.out, HNO.out (by simp)]; rfl)
            go_wp2_with fail
            go_ret
            exact ⟨by rw [HF.out]; rfl, HB1.out.trans (HR7.out.mono HB1.out.size)⟩
          | true =>
            have HT := hid (HYES.out (by rw [HK.out]; rfl))
            go_wp2_with fail
            go_roundw
            case rel => exact ⟨i + 1, rfl, by omega, HT.out, HR7.out⟩
            case measure => simp [intOf]; omega
    · obtain rfl : i = a := by omega
      have HR9 : Hid (res = q) := hid (by
        have h := HAL.out
        rw [List.take_of_length_le (by rw [HA.out]; omega)] at h
        rw [HRES.out, h, Bool.true_and])
      obtain ⟨g0, g1⟩ := t_row2 ((hbr.block _ (block_lt HBX.out)).trans HBX.out)
      clear hbr hlt
      go_wp2_with fail
      refine (HC.out _ HBR.out).mono ?_
      rintro e w6 ⟨rfl, hb⟩
      go_wp2_with fail
      go_ret
      refine ⟨by rw [HR9.out]; simp, HB1.out.trans ((HBR.out.trans (hb.mono HBR.out.size)).mono HB1.out.size)⟩
end Go.Proofs.YtbpedjkebemhnaaGreatDoor
end
section
/- append of a text's bytes, onto bytes of the call's own. -/
set_option linter.unusedVariables false
namespace Go.Proofs.YtbpedjkebemhnaaGreatDoor
open Go.RowKit

theorem run_app_str {P : Program} (w : World) (base : Nat) (t u ty e : TypeId) (hE : ElemIs P t e (.int .u8 0) 1 1) (hu : P.underlying u = some .string)
    (v : Value) (n : Nat) (xs : List Value) (hown : w.ownsRow base e 1 v n xs) (s : ByteArray) (h63 : n + s.size ≤ maxLen) (hbytes : n + s.size ≤ 140737488355328) (hbase : base ≤ w.heap.size) :
    ∃ v' w', (Builtin.append_ #[t, u] ty #[v, .string s]).run P w = .ok v' w' ∧ w'.ownsRow base e 1 v' (n + s.size) (xs ++ Go.Lib.strCells s) ∧ w.grownBy w' v.ownBlock ∧ (v'.ownBlock = v.ownBlock ∨ v'.ownBlock = some w.heap.size) := by
  obtain ⟨ht, hinfo, _, _⟩ := hE
  obtain ⟨i, hi, hz, hsize, hby⟩ := info_parts hinfo
  obtain ⟨v', w', hr, h2, h3, h4⟩ := Go.Lib.run_append_own_string (P := P) w base t u ty e i ht hu hi hz hsize hby v n xs hown s h63 hbytes hbase
  refine ⟨v', w', hr, h2, h3, ?_⟩
  have hxl : xs.length = n := by simpa using hown.1
  unfold maxLen at h63
  rcases hown.2 with ⟨rfl, rfl⟩ | ⟨g, cap, cur, rfl, hbg, hg, hnc, hcm, hcs, htake⟩
  · by_cases hm : s.size = 0
    · exact .inl (by rw [h4.2 ⟨rfl, hm⟩])
    · have hr2 := run_append_nil_string (P := P) w t u ty e i (.int .u8 0) ht hu hi hz s (by omega) (by omega) (by rw [hby]; omega)
      rw [hr2] at hr
      injection hr with hr1 _
      subst hr1
      exact .inr rfl
  · by_cases hroom : n + s.size ≤ cap
    · have hcs' : cur.size = cap := by simpa using hcs
      have hr2 := Go.Lib.run_append_room_string (P := P) w t u ty e i ht hu hi hsize g n cap cur hg s hroom (by omega)
      rw [hr2] at hr
      injection hr with hr1 _
      subst hr1
      exact .inl rfl
    · have holds : ∀ j u, xs[j]? = some u → w.cell? ((⟨g, 0, none⟩ : Addr).add j) = some u := hown.cells (g := g) rfl
      have hr2 := Go.Lib.run_append_grow_string (P := P) w t u ty e i (.int .u8 0) ht hu hi hz ⟨g, 0, none⟩ n cap xs (by rw [hsize]; simpa using hxl) holds s (by omega) (by omega) (by rw [hby]; exact growslice_fits (by omega) (by omega))
      rw [hr2] at hr
      injection hr with hr1 _
      subst hr1
      exact .inr rfl
theorem wpList_appT {P : Program} {w : World} {ops : Array Oper} {rest : List Oper} {o : Oper} {a : Act} {Q : Exit → Act → World → Prop} (hgd : o.guard = none) (sl x : Operand) (t u : TypeId)
    (ho : o.op = .call { callee := .builtin .append, args := #[sl, x], argTypes := #[t, u] }) (base : Nat) {e : TypeId} (hE : ElemIs P t e (.int .u8 0) 1 1) (hu : P.underlying u = some .string)
    (v : Value) (l m : Bt) (hs : a.eval sl = v) (hown : OwnB w base e v l) (hx : a.eval x = sv m) (hlen : l.length + m.length ≤ 140737488355328) (hbase : base ≤ w.heap.size)
    (h : ∀ v' w', OwnB w' base e v' (l ++ m) → w.grownBy w' v.ownBlock → (v'.ownBlock = v.ownBlock ∨ v'.ownBlock = some w.heap.size) → wpList P ops Q rest (a.put o.dst v') w') : wpList P ops Q (o :: rest) a w := by
  refine wpList_plain hgd fun K hK => ?_
  obtain ⟨n, hown⟩ := hown
  have hn : n = l.length := by have := hown.1; rw [bv_length] at this; omega
  subst hn
  have hsz : (ByteArray.mk m.toArray).size = m.length := by
    have h : (ByteArray.mk m.toArray).data.toList.length = (ByteArray.mk m.toArray).size := Array.length_toList
    rw [← h]
  obtain ⟨v', w', hr, h2, h3, h4⟩ := run_app_str (P := P) w base t u o.type e hE hu v l.length (bv l) hown ⟨m.toArray⟩ (by rw [hsz]; unfold maxLen; omega) (by rw [hsz]; omega) hbase
  have hcs : Go.Lib.strCells ⟨m.toArray⟩ = bv m := rfl
  rw [hcs, ← bv_append] at h2
  unfold Oper.wp execOp
  simp only [ho, resolve, invoke, builtin, Sem.run_bind, Sem.run_pure, Result.andThen_ok, List.map_toArray, List.map_cons, List.map_nil, hs, hx, sv, hr]
  exact hK _ _ (h v' w' ⟨_, h2⟩ h3 h4)
end Go.Proofs.YtbpedjkebemhnaaGreatDoor
end
section
/- The contracts of library functions that this seat reaches, each an application of a theorem of the library at this translation. -/
namespace Go.Proofs
open Go.Shelf
def Tryz.lays169_ren : Go.Shelf.Ren := ⟨fun | 169 => 52 | n => n, fun | 70 => 73 | 9 => 9 | 0 => 0 | 72 => 76 | 37 => 74 | 127 => 129 | 3 => 3 | 5 => 5 | n => n, fun | n => n⟩
theorem Tryz.lays169 : Go.Proofs.Lays.n169 Tryz.prog Tryz.lays169_ren := {
  mixed := by kernel_rfl
  f169 := Tryz.func52.trans (congrArg some (by kernel_rfl))
  t0 := Tryz.underlying0
  a0 := Tryz.isAgg0
  z0 := Tryz.sizeOf0
  v0 := Tryz.zeroValue0
  t3 := Tryz.underlying3
  a3 := Tryz.isAgg3
  z3 := Tryz.sizeOf3
  v3 := Tryz.zeroValue3
  t9 := Tryz.underlying9
  a9 := Tryz.isAgg9
  z9 := Tryz.sizeOf9
  v9 := Tryz.zeroValue9
  t37 := Tryz.underlying74
  a37 := Tryz.isAgg74
  z37 := Tryz.sizeOf74
  v37 := Tryz.zeroValue74
  t70 := Tryz.underlying73
  a70 := Tryz.isAgg73
  z70 := Tryz.sizeOf73
  v70 := Tryz.zeroValue73
  t72 := Tryz.underlying76
  a72 := Tryz.isAgg76
  z72 := Tryz.sizeOf76
  v72 := Tryz.zeroValue76
  t127 := Tryz.underlying129
  a127 := Tryz.isAgg129
  z127 := Tryz.sizeOf129
  v127 := Tryz.zeroValue129 }
theorem Tryz.Builder_Extra_169 : Builder.Extra Tryz.prog Tryz.lays169_ren := {
  sizeBuilder := by kernel_rfl
  liesBuilder := by kernel_rfl
  t5 := Tryz.underlying5
  a5 := Tryz.isAgg5
  z5 := Tryz.sizeOf5
  v5 := Tryz.zeroValue5
  infoByte := by kernel_rfl
  cellsByte := by kernel_rfl
  sizeByte := by kernel_rfl
  neB5 := by decide }
open Go.RowKit in
theorem Tryz.Builder_String_any (B b : Nat) (l : List UInt8) (w : World) (h : Lib.IsBuilder 76 5 B b (Lib.byteCells l) w) (hBw : B ≤ w.heap.size) :
    Calls Tryz.prog 52 #[.pointer (some ⟨b, 0, none⟩)] w fun e w' => e = .returned (.string ⟨l.toArray⟩) ∧ Below B w w' := Any.Builder_String_any Tryz.lays169 Tryz.Builder_Extra_169 B b l w h hBw
end Go.Proofs
end
section
/- strings.Builder: texts written, one behind the other. -/
set_option linter.unusedVariables false
namespace Go.Proofs.YtbpedjkebemhnaaGreatDoor
open Go.RowKit

theorem bd_size : (Tryz.prog.info? 76).map (·.size) = some 2 := by kernel_rfl
theorem bd_lies : liesAt Tryz.prog Tryz.prog.depth 76 (2 / Tryz.prog.cellsOf 76) 0 76 1 = true := by kernel_rfl
theorem el_byte8 : ElemIs Tryz.prog 74 5 (.int .u8 0) 1 1 := ⟨Tryz.underlying74, by kernel_rfl, rfl, by omega⟩
theorem ownB_any {w : World} {base : Nat} {e : TypeId} {v : Value} {l : Bt} (h : OwnB w base e v l) : ∃ ao n' cap, v = .slice ao n' cap := by
  obtain ⟨n, h⟩ := h
  rcases h.2 with ⟨hv, _⟩ | ⟨g, cap, cur, hv, _⟩
  · exact ⟨_, _, _, hv⟩
  · exact ⟨_, _, _, hv⟩
set_option maxHeartbeats 1000000 in
set_option maxRecDepth 100000 in
theorem bd_used (b : Nat) (w : World) (h0 : w.cell? ⟨b, 0, none⟩ = some (.pointer (some ⟨b, 0, none⟩))) :
    Calls Tryz.prog 100 #[.pointer (some ⟨b, 0, none⟩)] w fun e w' => e = .returned (.tuple #[]) ∧ w' = w := by
  obtain ⟨j, hj, _⟩ := Option.map_eq_some_iff.1 bd_size
  go_enter Tryz.func100, Tryz.ntmps100
  go_wp2
  rw [Lib.run_neq_ptr_same w _ Tryz.underlying73 hj]
  go_wp2
  go_end0
  exact ⟨rfl, rfl⟩
set_option maxHeartbeats 1000000 in
set_option maxRecDepth 100000 in
theorem bd_fresh (b : Nat) (w : World) (h0 : w.cell? ⟨b, 0, none⟩ = some (.pointer none)) (hsh : w.shape? b = some (76, 2)) (hfz : w.frozen? ⟨b, 0, none⟩ = false) :
    Calls Tryz.prog 100 #[.pointer (some ⟨b, 0, none⟩)] w fun e w' => e = .returned (.tuple #[]) ∧ w' = w.setCell ⟨b, 0, none⟩ (.pointer (some ⟨b, 0, none⟩)) := by
  obtain ⟨j, hj, hjs⟩ := Option.map_eq_some_iff.1 bd_size
  go_enter Tryz.func100, Tryz.ntmps100
  go_wp2
  rw [Lib.run_to_unsafe w ⟨b, 0, none⟩ Tryz.underlying73 Tryz.underlying151 hj (by rw [hjs]; decide) hsh (Nat.zero_lt_succ 1)]
  simp only [Result.andThen]
  rw [Oper.upon_value]
  go_wp2
  rw [run_callFunc_extern Tryz.func132 (by kernel_rfl) (by kernel_rfl) (by kernel_rfl) (e := Extern.AbiNoEscape.same) (by kernel_rfl)]
  rw [Lib.run_noEscape]
  simp only [Result.andThen]
  rw [Oper.upon_value]
  go_wp2
  rw [Lib.run_from_unsafe w ⟨b, 0, none⟩ Tryz.underlying151 Tryz.underlying73 hj hsh bd_lies]
  simp only [Result.andThen]
  rw [Oper.upon_value]
  go_wp2
  go_end0
  exact ⟨rfl, rfl⟩
/-- Every block stays but those of bytes and of builders. -/
def KeepsR (w w' : World) : Prop := ∀ (k : Nat) (cs : Array Value) (T : TypeId) (fz : Nat × Nat), w.heap[k]? = some (.cells cs T fz) → T ≠ 5 → T ≠ 76 → w'.heap[k]? = some (.cells cs T fz)
theorem KeepsR.refl (w : World) : KeepsR w w := fun _ _ _ _ h _ _ => h
theorem KeepsR.trans {a b c : World} (h1 : KeepsR a b) (h2 : KeepsR b c) : KeepsR a c := fun k cs T fz h ha hb => h2 k cs T fz (h1 k cs T fz h ha hb) ha hb
theorem KeepsR.set {w : World} {b i : Nat} {v : Value} {cs : Array Value} {fz : Nat × Nat} (h : w.heap[b]? = some (.cells cs 76 fz)) : KeepsR w (w.setCell ⟨b, i, none⟩ v) := by
  intro k cs2 T fz2 hk h1 h2
  rw [heap_setCell_other w _ k v (by
    intro e
    have e : k = b := e
    subst e
    rw [h] at hk
    injection hk with hk
    injection hk with _ hk _
    exact h2 hk.symm)]
  exact hk
theorem KeepsR.grown {w w' : World} {base : Nat} {v : Value} {n : Nat} {xs : List Value} (hown : w.ownsRow base 5 1 v n xs) (hg : w.grownBy w' v.ownBlock) : KeepsR w w' := by
  intro k cs T fz hk h1 h2
  rw [hg.block k (block_lt hk) (fun e => by
    rcases hown.2 with ⟨rfl, _⟩ | ⟨g, cap, cur, rfl, _, hg2, _⟩
    · cases e
    · injection e with e
      subst e
      rw [hg2] at hk
      injection hk with hk
      injection hk with _ hk _
      exact h1 hk.symm)]
  exact hk
theorem bd_check (B b : Nat) (bs : List Value) (w : World) (h : Lib.IsBuilder 76 5 B b bs w) :
    Calls Tryz.prog 100 #[.pointer (some ⟨b, 0, none⟩)] w fun e w' => e = .returned (.tuple #[]) ∧ (Lib.BuilderAt 76 5 B b (.pointer (some ⟨b, 0, none⟩)) bs w' ∧ Below B w w' ∧ KeepsR w w') := by
  rcases h with h | h
  · refine (bd_fresh b w h.cell0 h.shape h.frozen0).mono ?_
    rintro e w' ⟨rfl, rfl⟩
    obtain ⟨v9, h9, _⟩ := h.2
    exact ⟨rfl, h.used _, (Below.refl B w).setCell (p := ⟨b, 0, none⟩) h.1 _, KeepsR.set h9⟩
  · refine (bd_used b w h.cell0).mono ?_
    rintro e w' ⟨rfl, rfl⟩
    exact ⟨rfl, h, Below.refl B _, KeepsR.refl _⟩
/-- A text written behind what was written. -/
def BdT (B b : Nat) (t : Bt) (w : World) : Prop := Lib.IsBuilder 76 5 B b (bv t) w
set_option maxHeartbeats 2000000 in
set_option maxRecDepth 100000 in
theorem bd_write (B b : Nat) (t x : Bt) (w : World) (h : BdT B b t w) (hlen : t.length + x.length ≤ 140737488355328) (hBw : B ≤ w.heap.size) :
    Calls Tryz.prog 48 #[.pointer (some ⟨b, 0, none⟩), sv x] w fun e w' => (∃ v, e = .returned v) ∧ BdT B b (t ++ x) w' ∧ Below B w w' ∧ KeepsR w w' := by
  have hsx := sv_size x
  unfold BdT at h
  go_enter Tryz.func48, Tryz.ntmps48
  go_wp2_with fail
  refine (bd_check B b _ _ h).mono ?_
  rintro e w1 ⟨rfl, h1, hb1, hk1⟩
  obtain ⟨hB, v, hbk, hown, hne⟩ := h1
  have c0 : w1.cell? ⟨b, 0, none⟩ = some (.pointer (some ⟨b, 0, none⟩)) := by rw [Lib.cell_of_heap hbk]; rfl
  have c1 : w1.cell? ⟨b, 1, none⟩ = some v := by rw [Lib.cell_of_heap hbk]; rfl
  have hownb : OwnB w1 B 5 v t := ⟨_, hown⟩
  have hbw : B ≤ w1.heap.size := Nat.le_trans hBw hb1.size
  have HNE := hid hne
  have HK1 := hid hk1
  have HOW1 := hid hown
  have HBK := hid hbk
  clear hown hne hbk hk1
  go_wp2_with (at_builtin; go_must (refine wpList_appT rfl (.tmp 12) (.tmp 13) _ _ rfl B el_byte8 Tryz.underlying9 v t x rfl hownb rfl hlen hbw (fun v' w2 hown' hgrow _ => ?_)); have hb2 := (hgrow.block b (block_lt HBK.out) (fun e => HNE.out e.symm)).trans HBK.out; have d0 : w2.cell? ⟨b, 0, none⟩ = some (.pointer (some ⟨b, 0, none⟩)) := (cell_of_row _ _ _ _ _ (0, 0) hb2).trans rfl; have d1 : w2.cell? ⟨b, 1, none⟩ = some v := (cell_of_row _ _ _ _ _ (0, 0) hb2).trans rfl; have f1 := block_free hb2 1; have HOWN := hid hown'; have HB2 := hid hb2; have HGR := hid hgrow; obtain ⟨ao, n', cap, rfl⟩ := ownB_any hown'; clear hown' hb2 hgrow)
  go_ret2
  refine ⟨⟨_, rfl⟩, ?_, ?_, ?_⟩
  · obtain ⟨n9, hown'⟩ := HOWN.out
    have h9 : n9 = (bv (t ++ x)).length := by have := hown'.1; omega
    subst h9
    exact .inr (Lib.BuilderAt.put (T := 76) (e := 5) hB HB2.out hown' (by decide))
  · exact (hb1.grown HGR.out hbw (fun k hk => (hownb.lt k hk).1)).setCell (p := ⟨b, 1, none⟩) hB _
  · exact (HK1.out.trans (KeepsR.grown HOW1.out HGR.out)).trans (KeepsR.set HB2.out)
theorem BdT.below {B b : Nat} {t : Bt} {w w' : World} (h : BdT B b t w) (hb : Below w.heap.size w w') : BdT B b t w' := by
  unfold BdT at h ⊢
  rcases h with ⟨h1, v, h2, h3, h4⟩ | ⟨h1, v, h2, h3, h4⟩
  · exact .inl ⟨h1, v, (hb.block _ (block_lt h2)).trans h2, own_below h3 hb, h4⟩
  · exact .inr ⟨h1, v, (hb.block _ (block_lt h2)).trans h2, own_below h3 hb, h4⟩
theorem BdT.new (w : World) (B : Nat) (hB : B ≤ w.heap.size) : BdT B w.heap.size [] (w.alloc (.cells #[.pointer none, .slice none 0 0] 76)) :=
  .inl ⟨hB, _, heap_alloc_new w _, World.ownsRow_nil _ _ _ _, by simp [Value.ownBlock]⟩
theorem bd_text (B b : Nat) (l : Bt) (w : World) (h : BdT B b l w) (hBw : B ≤ w.heap.size) : Calls Tryz.prog 52 #[.pointer (some ⟨b, 0, none⟩)] w fun e w' => e = .returned (sv l) ∧ Below B w w' :=
  Tryz.Builder_String_any B b l w h hBw
theorem row_cell {w : World} {b j : Nat} {cs : Array Value} {T : TypeId} {fz : Nat × Nat} {v : Value} (h : w.heap[b]? = some (.cells cs T fz)) (hj : cs[j]? = some v) : w.cell? ⟨b, j, none⟩ = some v := by
  rw [cell_of_row _ _ _ _ _ _ h]; exact hj
end Go.Proofs.YtbpedjkebemhnaaGreatDoor
end
section
/- An expression as text: the list of what is within, simple ones. -/
set_option linter.unusedVariables false
namespace Go.Proofs.YtbpedjkebemhnaaGreatDoor
open Go.RowKit

theorem node_open {m : Nat} {k : Int} {text : Bt} {n li co : Int} {ts : List TyD} {ns : List Bt} {ks : List NoD} (h : nodeB m (.mk k text n li co ts ns ks) = true) :
    ∃ q, m = q + 1 ∧ (0 ≤ k ∧ k < 20) ∧ ownN k text n ts.length ns.length ks.length = true ∧ (∀ x ∈ ns, x.length ≤ 32) ∧ ts.all (writtenB 16) = true ∧ (∀ x ∈ ks, nodeB q x = true) := by
  cases m with
  | zero => cases h
  | succ q =>
    have h : (decide (0 ≤ k ∧ k < 20) && ownN k text n ts.length ns.length ks.length && ns.all nameL && ts.all (writtenB 16) && ks.all (nodeB q)) = true := h
    rw [Bool.and_eq_true, Bool.and_eq_true, Bool.and_eq_true, Bool.and_eq_true, decide_eq_true_eq] at h
    exact ⟨q, rfl, h.1.1.1.1, h.1.1.1.2, fun x hx => nameL_len (List.all_eq_true.1 h.1.1.2 x hx), h.1.2, fun x hx => List.all_eq_true.1 h.2 x hx⟩
/-- A row of texts, one more behind it: one step of a region. -/
theorem step_appS {P : Program} {ops : Array Oper} {o : Oper} {a : Act} {w : World} {K : Act → World → Prop} {Q : Exit → Act → World → Prop} {E : Prop} (hgd : o.guard = none) (s x : Operand) (t : TypeId)
    (ho : o.op = .call { callee := .builtin .append, args := #[s, x], argTypes := #[t, t] })
    (base : Nat) {e : TypeId} {z : Value} (hE : ElemIs P t e z 1 16) (v y : Value) (hs : a.eval s = v) (hx : a.eval x = y)
    {l : List Bt} (hown : OwnS w base e v l) {B : Nat} {m : List Bt} (hy : Ss w B y m) (hlen : l.length + m.length ≤ 8796093022208) (hbase : base ≤ w.heap.size)
    (h : ∀ v' w', OwnS w' base e v' (l ++ m) → w.grownBy w' v.ownBlock → (v'.ownBlock = v.ownBlock ∨ v'.ownBlock = some w.heap.size) → K (a.put o.dst v') w') :
    if Region.wanted o (yielded ops a.tmps) = true then Oper.wp P o a w K Q else E :=
  step_app hgd s x t ho base hE v y hs hx hown.row hy (svs_one _) (by simp only [svs_length, maxLen]; omega) (by rw [svs_length]; omega) hbase
    (fun v' w' n' h1 h2 h3 => h v' w' ⟨n', by rw [svs_append]; exact h1⟩ h2 h3)
/-- What stands in memory while the texts of what is within are put together: a list in a box, the node. -/
structure ExAt (w wr : World) (OB : Obj) (v : Value) (l : List Bt) : Prop where
  box : wr.heap[w.heap.size + 1]? = some (.cells #[v] 23 (0, 0))
  own : OwnS wr (w.heap.size + 2) 9 v l
  node : wr.heap[w.heap.size]? = some OB
  below : Below w.heap.size w wr
theorem ExAt.far {w wr w' : World} {OB : Obj} {v : Value} {l : List Bt} (h : ExAt w wr OB v l) (hb : Below wr.heap.size wr w') : ExAt w w' OB v l :=
  ⟨(hb.block _ (block_lt h.box)).trans h.box, h.own.below hb, (hb.block _ (block_lt h.node)).trans h.node, h.below.trans (hb.mono h.below.size)⟩
theorem ExAt.cell {w wr : World} {OB : Obj} {v : Value} {l : List Bt} (h : ExAt w wr OB v l) : wr.cell? ⟨w.heap.size + 1, 0, none⟩ = some v := (cell_of_row _ _ _ _ _ _ h.box).trans rfl
theorem ExAt.grown {w wr w' : World} {OB : Obj} {v v' : Value} {l l' : List Bt} (h : ExAt w wr OB v l) (ho : OwnS w' (w.heap.size + 2) 9 v' l') (hg : wr.grownBy w' v.ownBlock) :
    w'.cell? ⟨w.heap.size + 1, 0, none⟩ = some v ∧ w'.frozen? ⟨w.heap.size + 1, 0, none⟩ = false ∧ ExAt w (w'.setCell ⟨w.heap.size + 1, 0, none⟩ v') OB v' l' := by
  have hlt := h.own.lt
  have hb := (hg.block _ (block_lt h.box) (by intro e; have := (hlt _ e.symm).1; omega)).trans h.box
  have hn := (hg.block _ (block_lt h.node) (by intro e; have := (hlt _ e.symm).1; omega)).trans h.node
  have hbl : Below w.heap.size w w' := h.below.grown hg h.below.size (fun k hk => by have := (hlt k hk).1; omega)
  have t := turn_set w' (w.heap.size + 1) 0 v'
  refine ⟨(cell_of_row _ _ _ _ _ _ hb).trans rfl, block_free hb 0, heap_setCell_same _ _ _ _ _ _ hb, ho.turn t (fun g hg e => by have := (ho.lt g hg).1; omega), block_turn hn t (by omega), hbl.trans (t.below hbl.size (fun k hk e => by omega))⟩
theorem OwnS.cell {w : World} {base : Nat} {e : TypeId} {g c n : Nat} {l : List Bt} (h : OwnS w base e (.slice (some ⟨g, 0, none⟩) n c) l) (j : Nat) (hj : j < l.length) : w.cell? ⟨g, j, none⟩ = some (sv l[j]) := by
  have := h.row.cells (g := g) rfl j _ (svs_get l j hj)
  rwa [plain_add, Nat.zero_add] at this
set_option maxRecDepth 100000 in
set_option maxHeartbeats 2000000 in
theorem expr1_any (w : World) (bt bk : Nat) (k : Int) (text : Bt) (n li co : Int) (A1 : Option Addr) (n1 c1 : Nat) (A2 : Option Addr) (a c2 : Nat) (A3 : Option Addr) (n3 c3 : Nat) (g : Nat) (d c : Nat) (ns S : List Bt)
    (hbt : w.heap[bt]? = some (.cells #[.int .i64 k, sv text, .int .i64 n, .int .i64 li, .int .i64 co, .slice A1 n1 c1, .slice A2 a c2, .slice A3 n3 c3] 26 (0, 0))) (hbk : w.cell? ⟨bk, 0, none⟩ = some (.slice (some ⟨g, 0, none⟩) d c))
    (s2 : Ss w w.heap.size (.slice A2 a c2) ns) (hS : ∀ (j : Nat) (hj : j < S.length), w.cell? ⟨g, j, none⟩ = some (sv S[j])) (hd : d = S.length) (hdc : d ≤ 1000000) (ha : a = ns.length) (i : Nat) (hi : i < S.length) (hin : i < ns.length) (hl1 : ns[i].length ≤ 32) (hl2 : S[i].length ≤ 1000000000) :
    Calls Tryz.prog 73 #[.int .i64 (i : Int), .pointer (some ⟨bt, 0, none⟩), .pointer (some ⟨bk, 0, none⟩)] w fun e w' => e = .returned (sv (fieldS ns[i] S[i])) ∧ Below w.heap.size w w' := by
  obtain ⟨_, _, _, _, _, _, g6, _⟩ := t_row8 hbt
  subst ha
  obtain ⟨b1, o1, rfl, d0⟩ := text_at s2 hin
  have e0 := hS i hi
  have l1 := (t_sl_len s2).2
  have hsz0 := sv_size ns[i]
  have hsz1 := sv_size S[i]
  have hid_ : i < d := by omega
  generalize ns[i] = X at *
  generalize S[i] = s at *
  generalize ns.length = a at *
  have HF : Hid (fieldS X s = (X ++ [58, 32]) ++ s) := hid (by unfold fieldS; rw [List.append_assoc])
  have q0 : ¬ (9223372036854775807 < X.length + 2) := by omega
  have q1 : ¬ (9223372036854775807 < X.length + 2 + s.length) := by omega
  have G6 := hid g6
  have D0 := hid d0
  have E0 := hid e0
  have GK := hid hbk
  have HB0 : Hid (Below w.heap.size w w.drew) := hid (below_drawn w 1)
  clear hbt s2 hS hd g6 d0 e0 hbk hl1 hl2 hi
  go_enter Tryz.func73, Tryz.ntmps73
  go_wp2_with fail
  refine wp_region_held_drew (S := fun w' => Below w.heap.size w w') (by kernel_rfl) HB0.out (fun _ => ?_)
  try simp only [Act.put, List.getElem_toArray, List.getElem_cons_zero, List.getElem_cons_succ, List.setIfInBounds_toArray, List.set_cons_zero, List.set_cons_succ]
  refine tk 0 (.pointer (some ⟨bt, 6, none⟩)) HB0.out ?_
  refine tkf 1 (.slice (some ⟨b1, o1, none⟩) a c2) (kp1 G6.out) HB0.out ?_
  refine tk 2 (.int .i64 (i : Int)) HB0.out ?_
  refine tk 3 (.pointer (some ⟨b1, o1 + i, none⟩)) HB0.out ?_
  refine tkf 4 (sv X) (kp1 D0.out) HB0.out ?_
  refine tk 5 (.string ((⟨X.toArray⟩ : ByteArray) ++ ⟨#[58, 32]⟩)) HB0.out ?_
  refine tkf 6 (.slice (some ⟨g, 0, none⟩) d c) (kp1 GK.out) HB0.out ?_
  refine tk 7 (.int .i64 (i : Int)) HB0.out ?_
  refine tk 8 (.pointer (some ⟨g, i, none⟩)) HB0.out ?_
  refine tkf 9 (sv s) (kp1 E0.out) HB0.out ?_
  refine tk 10 (.string ((⟨X.toArray⟩ : ByteArray) ++ ⟨#[58, 32]⟩ ++ ⟨s.toArray⟩)) HB0.out ?_
  refine tk 11 (.string ((⟨X.toArray⟩ : ByteArray) ++ ⟨#[58, 32]⟩ ++ ⟨s.toArray⟩)) HB0.out ?_
  refine wpAnyH_done (by kernel_rfl) ?_ _
  go_wp2_with fail
  go_ret
  refine ⟨?_, HB0.out⟩
  rw [HF.out]
  have e : (⟨X.toArray⟩ : ByteArray) ++ ⟨([58, 32] : Bt).toArray⟩ ++ ⟨s.toArray⟩ = ⟨(X ++ ([58, 32] : Bt) ++ s).toArray⟩ := by
    rw [str_append, str_append]
  exact congrArg (fun b => Ending.returned (Value.string b)) e
set_option maxRecDepth 100000 in
set_option maxHeartbeats 4000000 in
theorem simple_any (w : World) (z : List Value) (k : Int) (text : Bt) (n li co : Int) (ts : List TyD) (ns : List Bt) (ks : List NoD) (hr : NoR w w.heap.size z (.mk k text n li co ts ns ks)) (hk : k = 0 ∨ k = 1 ∨ k = 2 ∨ k = 3 ∨ k = 4 ∨ k = 18 ∨ k = 19) (hn : In64 n) (h2 : k = 2 → n = 0 ∨ n = 1) (ht : text.length ≤ 256) (hw : ts.all (writtenB 16) = true) (hc : cntTs ts ≤ 100000) (hX : LaidT w) :
    Calls Tryz.prog 74 #[.agg z.toArray] w fun e w' => e = .returned (sv (simpleS k text n ts)) ∧ Below w.heap.size w w' := by
  obtain ⟨A1, c1, A2, c2, A3, c3, xt, xk, rfl, s1, r1, s2, s3, r3⟩ := hr.parts
  clear hr s2 s3 r3
  obtain ⟨b, hB⟩ : ∃ b, ns.length = b := ⟨_, rfl⟩
  obtain ⟨d, hD⟩ : ∃ d, ks.length = d := ⟨_, rfl⟩
  rw [hB, hD]
  clear hB hD
  obtain ⟨W, hW⟩ : ∃ W, w.alloc (.cells #[.int .i64 k, sv text, .int .i64 n, .int .i64 li, .int .i64 co, .slice A1 ts.length c1, .slice A2 b c2, .slice A3 d c3] 26) = W := ⟨_, rfl⟩
  have hb1 : Below w.heap.size w W := by rw [← hW]; exact (Below.refl _ _).alloc (Nat.le_refl _) _
  have hbx : W.heap[w.heap.size]? = some (.cells #[.int .i64 k, sv text, .int .i64 n, .int .i64 li, .int .i64 co, .slice A1 ts.length c1, .slice A2 b c2, .slice A3 d c3] 26 (0, 0)) := by rw [← hW]; exact heap_alloc_new w _
  obtain ⟨_, g1, _, _, _, g5, _, _⟩ := t_row8 hbx
  have G1 := hid g1
  have G5 := hid g5
  have HB := hid hb1
  have HWE := hid hW
  have HX := hid (hX.below hb1)
  have HS1 := hid (And.intro (Sl.more (Sl.below s1 hb1) hb1.size) ((r1.keep hb1).more hb1.size))
  have hlt := (show_types hw hc).1
  have hla := (t_sl_len s1).2
  clear hb1 hbx hX s1 r1 g1 g5
  rcases hk with rfl | rfl | rfl | rfl | rfl | rfl | rfl
  · have HT : Hid (simpleS 0 text n ts = Lib.itoa n) := hid rfl
    rw [HT.out]
    have HS := hid (show_tab n W hn HX.out.1)
    rw [← hW] at HS
    clear hW
    generalize Lib.itoa n = s at *
    go_enter Tryz.func74, Tryz.ntmps74
    go_wp2_with fail
    refine HS.out.mono ?_
    rintro e w2 ⟨rfl, hb⟩
    rw [HWE.out] at hb
    go_wp2_with fail
    go_ret
    exact ⟨rfl, HB.out.trans (hb.mono HB.out.size)⟩
  · have HT : Hid (simpleS 1 text n ts = quoteW text) := hid rfl
    rw [HT.out]
    have HS := hid (quote_any W text (by omega))
    rw [← hW] at HS
    clear hW
    generalize quoteW text = s at *
    go_enter Tryz.func74, Tryz.ntmps74
    go_wp2_with fail
    refine HS.out.mono ?_
    rintro e w2 ⟨rfl, hb⟩
    rw [HWE.out] at hb
    go_wp2_with fail
    go_ret
    exact ⟨rfl, HB.out.trans (hb.mono HB.out.size)⟩
  · clear hW
    rcases h2 rfl with rfl | rfl
    · have HT : Hid (simpleS 2 text 0 ts = [102, 97, 108, 115, 101]) := hid rfl
      rw [HT.out]
      have hix : ∀ u, (Instr.index 139 (.agg #[.string ⟨#[102, 97, 108, 115, 101]⟩, .string ⟨#[116, 114, 117, 101]⟩]) (.int .i64 0)).run Tryz.prog u = .ok (.string ⟨#[102, 97, 108, 115, 101]⟩) u := fun _ => by kernel_rfl
      rw [← HWE.out] at HB
      go_enter Tryz.func74, Tryz.ntmps74
      go_wp2_with fail
      go_ret
      exact ⟨rfl, HB.out⟩
    · have HT : Hid (simpleS 2 text 1 ts = [116, 114, 117, 101]) := hid rfl
      rw [HT.out]
      have hix : ∀ u, (Instr.index 139 (.agg #[.string ⟨#[102, 97, 108, 115, 101]⟩, .string ⟨#[116, 114, 117, 101]⟩]) (.int .i64 1)).run Tryz.prog u = .ok (.string ⟨#[116, 114, 117, 101]⟩) u := fun _ => by kernel_rfl
      rw [← HWE.out] at HB
      go_enter Tryz.func74, Tryz.ntmps74
      go_wp2_with fail
      go_ret
      exact ⟨rfl, HB.out⟩
  · have HT : Hid (simpleS 3 text n ts = [110, 117, 108, 108]) := hid rfl
    rw [HT.out]
    rw [← HWE.out] at HB
    clear hW
    go_enter Tryz.func74, Tryz.ntmps74
    go_wp2_with fail
    go_ret
    exact ⟨rfl, HB.out⟩
  · have HT : Hid (simpleS 4 text n ts = text) := hid rfl
    rw [HT.out]
    rw [← HWE.out] at HB
    clear hW
    go_enter Tryz.func74, Tryz.ntmps74
    go_wp2_with fail
    go_ret
    exact ⟨rfl, HB.out⟩
  · have HT : Hid (simpleS 18 text n ts = [114, 101, 97, 100, 40, 41]) := hid rfl
    rw [HT.out]
    rw [← HWE.out] at HB
    clear hW
    go_enter Tryz.func74, Tryz.ntmps74
    go_wp2_with fail
    go_ret
    exact ⟨rfl, HB.out⟩
  · have HT : Hid (simpleS 19 text n ts = text ++ [91] ++ joinS [44, 32] (ts.map showT) ++ [93]) := hid (by show cat [text, [91], joinS [44, 32] (ts.map showT), [93]] = _; simp [cat])
    rw [HT.out]
    have HS := hid (fun (w1 : World) (h : Below W.heap.size W w1) => types_any w1 ts A1 c1 xt (Sl.more (Sl.below HS1.out.1 h) h.size) ((HS1.out.2.keep h).more h.size) hw hc)
    obtain ⟨a, ha⟩ : ∃ a, ts.length = a := ⟨_, rfl⟩
    rw [ha] at HS HWE G5 hW hla ⊢
    clear hw hc HT ha HS1
    generalize joinS [44, 32] (ts.map showT) = s at *
    generalize text = X at *
    have hsz := sv_size s
    have hsz1 := sv_size X
    have q0 : ¬ (9223372036854775807 < X.length + 1) := by omega
    have q1 : ¬ (9223372036854775807 < X.length + 1 + s.length) := by omega
    have q2 : ¬ (9223372036854775807 < X.length + 1 + s.length + 1) := by omega
    have HB0 : Hid (Below W.heap.size W W.drew) := hid (below_drawn W 1)
    clear hW
    go_enter Tryz.func74, Tryz.ntmps74
    go_wp2_with fail
    have hW := HWE.out
    rw [hW]
    clear hW
    refine wp_region_held_drew (S := fun w' => Below W.heap.size W w') (by kernel_rfl) HB0.out (fun _ => ?_)
    try simp only [Act.put, List.getElem_toArray, List.getElem_cons_zero, List.getElem_cons_succ, List.setIfInBounds_toArray, List.set_cons_zero, List.set_cons_succ]
    refine tk 0 (.pointer (some ⟨w.heap.size, 1, none⟩)) HB0.out ?_
    refine tkf 1 (sv X) (kp1 G1.out) HB0.out ?_
    refine tk 2 (.string ((⟨X.toArray⟩ : ByteArray) ++ ⟨#[91]⟩)) HB0.out ?_
    refine tk 3 (.pointer (some ⟨w.heap.size, 5, none⟩)) HB0.out ?_
    refine tkf 4 (.slice A1 a c1) (kp1 G5.out) HB0.out ?_
    refine wpAnyH_ready (rs := [5]) (by kernel_rfl) (by simp) ?_
    refine AllReadyH.cons rfl (fun K hK => ?_) (AllReadyH.nil)
    go_simp
    refine (HS.out _ HB0.out).mono ?_
    rintro e w2 ⟨rfl, hb⟩
    have HB2 := hid (HB0.out.trans (hb.mono HB0.out.size))
    clear hb
    refine hK.out _ _ HB2.out (fun _ => ?_)
    clear hK K
    try simp only [Act.put, List.getElem_toArray, List.getElem_cons_zero, List.getElem_cons_succ, List.setIfInBounds_toArray, List.set_cons_zero, List.set_cons_succ]
    refine tk 6 (.string ((⟨X.toArray⟩ : ByteArray) ++ ⟨#[91]⟩ ++ ⟨s.toArray⟩)) HB2.out ?_
    refine tk 7 (.string ((⟨X.toArray⟩ : ByteArray) ++ ⟨#[91]⟩ ++ ⟨s.toArray⟩ ++ ⟨#[93]⟩)) HB2.out ?_
    refine tk 8 (.string ((⟨X.toArray⟩ : ByteArray) ++ ⟨#[91]⟩ ++ ⟨s.toArray⟩ ++ ⟨#[93]⟩)) HB2.out ?_
    refine wpAnyH_done (by kernel_rfl) ?_ _
    go_wp2_with fail
    go_ret
    refine ⟨?_, HB.out.trans (HB2.out.mono HB.out.size)⟩
    have e : (⟨X.toArray⟩ : ByteArray) ++ ⟨([91] : Bt).toArray⟩ ++ ⟨s.toArray⟩ ++ ⟨([93] : Bt).toArray⟩ = ⟨(X ++ ([91] : Bt) ++ s ++ ([93] : Bt)).toArray⟩ := by
      rw [str_append, str_append, str_append]
    exact congrArg (fun b => Ending.returned (Value.string b)) e
end Go.Proofs.YtbpedjkebemhnaaGreatDoor
end
section
/- An expression as text: the contract. -/
set_option linter.unusedVariables false
namespace Go.Proofs.YtbpedjkebemhnaaGreatDoor
open Go.RowKit

/-- The contract of expr, of an expression of not too many. -/
def ExC (x : NoD) : Prop := ∀ (w : World) (z : List Value) (m : Nat), NoR w w.heap.size z x → okN x → nodeB m x = true → cntN x ≤ 100000 → LaidT w →
  Calls Tryz.prog 33 #[.agg z.toArray] w fun e w' => e = .returned (sv (exprS x)) ∧ Below w.heap.size w w'
end Go.Proofs.YtbpedjkebemhnaaGreatDoor
end
