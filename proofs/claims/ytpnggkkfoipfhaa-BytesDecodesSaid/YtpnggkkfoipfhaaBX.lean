/- A writer of bytes: texts. -/
import Derived.Test.YtpnggkkfoipfhaaBW
import Derived.Lib.AppendStr
set_option linter.unusedVariables false
namespace Go.Proofs.Ytpnggkkfoipfhaa
open Go.RowKit

theorem run_app_str {P : Program} (w : World) (base : Nat) (t u ty e : TypeId) (hE : ElemIs P t e (.int .u8 0) 1 1) (hu : P.underlying u = some .string)
    (v : Value) (n : Nat) (xs : List Value) (hown : w.ownsRow base e 1 v n xs) (s : ByteArray) (h63 : n + s.size ≤ maxLen) (hbytes : n + s.size ≤ 140737488355328) (hbase : base ≤ w.heap.size) :
    ∃ v' w', (Builtin.append_ #[t, u] ty #[v, .string s]).run P w = .ok v' w' ∧ w'.ownsRow base e 1 v' (n + s.size) (xs ++ Go.Lib.strCells s) ∧ w.grownBy w' v.ownBlock ∧ (v'.ownBlock = v.ownBlock ∨ v'.ownBlock = some w.heap.size) := by
  obtain ⟨ht, hinfo, _, _⟩ := hE
  obtain ⟨i, hi, hz, hsize, hby⟩ := info_parts hinfo
  obtain ⟨v', w', hr, h2, h3, h4⟩ := Go.Lib.run_append_own_string (P := P) w base t u ty e i ht hu hi hz hsize hby v n xs hown s h63 hbytes hbase
  refine ⟨v', w', hr, h2, h3, ?_⟩
  have hxl : xs.length = n := by simpa using hown.1
  unfold maxLen at h63
  rcases hown.2 with ⟨rfl, rfl⟩ | ⟨g, cap, cur, rfl, hbg, hg, hnc, hcm, hcs, htake⟩
  · by_cases hm : s.size = 0
    · exact .inl (by rw [h4.2 ⟨rfl, hm⟩])
    · have hr2 := run_append_nil_string (P := P) w t u ty e i (.int .u8 0) ht hu hi hz s (by omega) (by omega) (by rw [hby]; omega)
      rw [hr2] at hr
      injection hr with hr1 _
      subst hr1
      exact .inr rfl
  · by_cases hroom : n + s.size ≤ cap
    · have hcs' : cur.size = cap := by simpa using hcs
      have hr2 := Go.Lib.run_append_room_string (P := P) w t u ty e i ht hu hi hsize g n cap cur hg s hroom (by omega)
      rw [hr2] at hr
      injection hr with hr1 _
      subst hr1
      exact .inl rfl
    · have holds : ∀ j u, xs[j]? = some u → w.cell? ((⟨g, 0, none⟩ : Addr).add j) = some u := hown.cells (g := g) rfl
      have hr2 := Go.Lib.run_append_grow_string (P := P) w t u ty e i (.int .u8 0) ht hu hi hz ⟨g, 0, none⟩ n cap xs (by rw [hsize]; simpa using hxl) holds s (by omega) (by omega) (by rw [hby]; exact growslice_fits (by omega) (by omega))
      rw [hr2] at hr
      injection hr with hr1 _
      subst hr1
      exact .inr rfl
theorem wpList_appT {P : Program} {w : World} {ops : Array Oper} {rest : List Oper} {o : Oper} {a : Act} {Q : Exit → Act → World → Prop} (hgd : o.guard = none) (sl x : Operand) (t u : TypeId)
    (ho : o.op = .call { callee := .builtin .append, args := #[sl, x], argTypes := #[t, u] }) (base : Nat) {e : TypeId} (hE : ElemIs P t e (.int .u8 0) 1 1) (hu : P.underlying u = some .string)
    (v : Value) (l m : Bt) (hs : a.eval sl = v) (hown : OwnB w base e v l) (hx : a.eval x = sv m) (hlen : l.length + m.length ≤ 140737488355328) (hbase : base ≤ w.heap.size)
    (h : ∀ v' w', OwnB w' base e v' (l ++ m) → w.grownBy w' v.ownBlock → (v'.ownBlock = v.ownBlock ∨ v'.ownBlock = some w.heap.size) → wpList P ops Q rest (a.put o.dst v') w') : wpList P ops Q (o :: rest) a w := by
  refine wpList_plain hgd fun K hK => ?_
  obtain ⟨n, hown⟩ := hown
  have hn : n = l.length := by have := hown.1; rw [bv_length] at this; omega
  subst hn
  have hsz : (ByteArray.mk m.toArray).size = m.length := by
    have h : (ByteArray.mk m.toArray).data.toList.length = (ByteArray.mk m.toArray).size := Array.length_toList
    rw [← h]
  obtain ⟨v', w', hr, h2, h3, h4⟩ := run_app_str (P := P) w base t u o.type e hE hu v l.length (bv l) hown ⟨m.toArray⟩ (by rw [hsz]; unfold maxLen; omega) (by rw [hsz]; omega) hbase
  have hcs : Go.Lib.strCells ⟨m.toArray⟩ = bv m := rfl
  rw [hcs, ← bv_append] at h2
  unfold Oper.wp execOp
  simp only [ho, resolve, invoke, builtin, Sem.run_bind, Sem.run_pure, Result.andThen_ok, List.map_toArray, List.map_cons, List.map_nil, hs, hx, sv, hr]
  exact hK _ _ (h v' w' ⟨_, h2⟩ h3 h4)

theorem is_new (w : World) (x : Int) (t : TypeId) : Sl (w.alloc (.cells #[.int .i64 x] t)) (w.heap.size + 1) 1 (.slice (some ⟨w.heap.size, 0, none⟩) 1 1) (intsV [x]) := sl_new w _ t 1 1 rfl (by decide)
theorem wr_sv_size (s : Bt) : (ByteArray.mk s.toArray).size = s.length := by
  have h : (ByteArray.mk s.toArray).data.toList.length = (ByteArray.mk s.toArray).size := Array.length_toList
  rw [← h]

set_option maxHeartbeats 1000000 in
theorem one_any (w : World) (base : Nat) (F : Nat → Prop) (bw : Nat) (b : Bt) (x : Int) (hW : WrAt w base F bw b) (hx : In64 x) (hlen : b.length + 10 ≤ 140737488355000) :
    Calls Try.prog 19 #[.pointer (some ⟨bw, 0, none⟩), .int .i64 x] w fun e w' => e = .returned (.tuple #[]) ∧ WrTo base F bw w w' (b ++ putL x) := by
  have hF : ∀ k, F k → base ≤ k ∧ k < w.heap.size := by obtain ⟨_, _, _, _, _, h⟩ := hW; exact h
  have hb1 : Below w.heap.size w (w.alloc (.cells #[.int .i64 x] 3)) := (Below.refl _ _).alloc (Nat.le_refl _) _
  have hN := hid (num_any (w.alloc (.cells #[.int .i64 x] 3)) base F bw b (.slice (some ⟨w.heap.size, 0, none⟩) 1 1) [x] (hW.below hb1) (by simpa using is_new w x 3) (fun g hg h => by injection hg with hg; have := (hF _ h).2; rw [← hg] at this; simp at this) (by simpa using hx) (by simp; omega))
  clear hW
  go_enter Try.func19, Try.ntmps19
  go_wp2_with fail
  refine hN.out.mono ?_
  rintro e w2 ⟨rfl, hto⟩
  go_wp2_with fail
  go_end0
  exact ⟨rfl, WrTo.first hb1 (by simpa using hto)⟩
end Go.Proofs.Ytpnggkkfoipfhaa
