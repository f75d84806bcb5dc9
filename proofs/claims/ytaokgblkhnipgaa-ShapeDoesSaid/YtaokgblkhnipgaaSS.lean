/- The tree of shapes in memory; the contracts of shape's functions that read. -/
import Derived.Test.YtaokgblkhnipgaaRows
import Derived.DeepKeys4
import Derived.Test.YtaokgblkhnipgaaPS
set_option linter.unusedVariables false
namespace Go.Proofs.Ytaokgblkhnipgaa
open Go.RowKit
open Go.Maps (has IsMap Keyed)

theorem el_str : ElemIs Try.prog 22 9 (sv []) 1 16 := ⟨Try.underlying22, by kernel_rfl, rfl, by decide⟩
def zeroShape : Value := .agg #[.slice none 0 0, .map none]
theorem el_shape : ElemIs Try.prog 49 48 zeroShape 2 32 := ⟨Try.underlying49, by kernel_rfl, rfl, by decide⟩
theorem law_str : Keyed Try.prog 9 := Maps.string_keyed Try.underlying9
theorem law_step : Keyed Try.prog 57 := Keyed.of_law (deep_law_laid (m := 2) (by kernel_rfl) (by omega) (of_decide_eq_true (by kernel_rfl)) (by kernel_rfl) (by kernel_rfl))
theorem formed_step (s : Nat) (x : Nm) : (stepV s x).formed Try.prog 57 = true := by
  have h2 : Try.prog.cellsOf 57 = 2 := by kernel_rfl
  simp [Value.formed, Try.underlying57, h2, stepV]
theorem lits_int (d : Nat) (s : Nat) (hs : (Lit.int .i64 s).wf = true) : Try.prog.keyLits (d + 1) 3 [.int .i64 s] = some [.int .i64 s] := by
  simp [Program.keyLits, Try.underlying3, hs]
theorem lits_str (d : Nat) (x : Nm) (hx : x.length ≤ maxLen) : Try.prog.keyLits (d + 1) 9 [sv x] = some [.string x] := by
  have h : (ByteArray.mk x.toArray).size ≤ maxLen := by simpa [ByteArray.size] using hx
  simp [Program.keyLits, Try.underlying9, h, sv]
theorem key_step (s : Nat) (x : Nm) (hs : (Lit.int .i64 s).wf = true) (hx : x.length ≤ maxLen) : ∃ kl, keyOf Try.prog 57 (stepV s x) = some kl := by
  obtain ⟨d, hd⟩ : ∃ d, Try.prog.types.size = d + 1 := ⟨Try.prog.types.size - 1, by kernel_rfl⟩
  have h2 : Try.prog.cellsOf 57 = 2 := by kernel_rfl
  have h3 : Try.prog.cellsOf 3 = 1 := by kernel_rfl
  have h4 : Try.prog.cellsOf 9 = 1 := by kernel_rfl
  have hk : Try.prog.keyType 57 = true := by kernel_rfl
  refine ⟨.string (keyBytes [.int .i64 s, .string x]), ?_⟩
  have e : Try.prog.keyLits (d + 1 + 1) 57 [.int .i64 s, sv x] = some [.int .i64 s, .string x] := by
    rw [Program.keyLits.eq_def]
    simp only [Try.underlying57]
    simp [h2, h3, h4, lits_int d s hs, lits_str d x hx]
  simp only [keyOf, Try.underlying57, hk, formed_step, Bool.and_self, if_true, hd]
  have e2 : (stepV s x).cells.toList = [.int .i64 s, sv x] := rfl
  rw [e2, e]; rfl
theorem key_nm {x : Nm} (hx : x.length ≤ maxLen) : keyOf Try.prog 9 (sv x) = some (.string x) := by
  have := WideMaps.keyOf_string_mk (P := Try.prog) Try.underlying9 (s := ⟨x.toArray⟩) (by simpa [ByteArray.size] using hx)
  simpa using this
theorem zero_int (w : World) : (zeroValue 3).run Try.prog w = .ok (.int .i64 0) w := by kernel_rfl

/-- A shape's two cells: its names, and the map of their places. -/
def ShapeAt (w : World) (R : Nat → Prop) (v m : Value) (l : List Nm) : Prop :=
  SlF w R 1 v (svs l) ∧ ((m = .map none ∧ l = []) ∨ ∃ (b n : Nat) (D : Dm), m = .map (some b) ∧ R b ∧ w.ownsMap Try.prog 9 (plainElem Try.prog 3) b n D ∧ Slots D l)
theorem ShapeAt.turn {w w' : World} {R G : Nat → Prop} {v m : Value} {l : List Nm} (h : ShapeAt w R v m l) (t : Turn G w w') (hd : ∀ g, R g → ¬ G g) : ShapeAt w' R v m l := by
  refine ⟨h.1.turn t hd, ?_⟩
  rcases h.2 with h2 | ⟨b, n, D, h1, h2, h3, h4⟩
  · exact .inl h2
  · exact .inr ⟨b, n, D, h1, h2, map_turn h3 t (hd b h2), h4⟩
theorem ShapeAt.mono {w : World} {R S : Nat → Prop} {v m : Value} {l : List Nm} (h : ShapeAt w R v m l) (hR : ∀ g, R g → S g) : ShapeAt w S v m l := by
  refine ⟨h.1.mono hR, ?_⟩
  rcases h.2 with h2 | ⟨b, n, D, h1, h2, h3, h4⟩
  · exact .inl h2
  · exact .inr ⟨b, n, D, h1, hR b h2, h3, h4⟩

structure TreeIs (w : World) (F : Nat → Prop) (bt : Nat) (L : List (List Nm)) (R : Nat → Prop) (bs : Nat) (va : Value) (D : Dm) (rows : List (Value × Value)) : Prop where
  cell : w.heap[bt]? = some (.cells #[va, .map (some bs)] 52 (0, 0))
  row : w.ownsRow 0 48 2 va L.length (rows.flatMap fun r => [r.1, r.2])
  steps : w.ownsMap Try.prog 57 (plainElem Try.prog 3) bs L.length D
  holds : Steps Try.prog 57 D L
  len : rows.length = L.length
  shapes : ∀ (i : Nat) r l, rows[i]? = some r → L[i]? = some l → ShapeAt w R r.1 r.2 l
  fbt : F bt
  fbs : F bs
  ne : bt ≠ bs
  fva : ∀ g, va.ownBlock = some g → F g ∧ g ≠ bt ∧ g ≠ bs ∧ ¬ R g
  rbt : ¬ R bt
  rbs : ¬ R bs
  rf : ∀ k, R k → F k
  lt : ∀ k, F k → k < w.heap.size
  good : Good L
/-- Block bt is a tree of these shapes; its memory is F. -/
def TreeAt (w : World) (F : Nat → Prop) (bt : Nat) (L : List (List Nm)) : Prop := ∃ R bs va D rows, TreeIs w F bt L R bs va D rows
theorem TreeAt.turn {w w' : World} {F G : Nat → Prop} {bt : Nat} {L : List (List Nm)} (h : TreeAt w F bt L) (t : Turn G w w') (hd : ∀ g, F g → ¬ G g) : TreeAt w' F bt L := by
  obtain ⟨R, bs, va, D, rows, h⟩ := h
  exact ⟨R, bs, va, D, rows, block_turn h.cell t (hd _ h.fbt), own_turn h.row t (fun g hg => hd g (h.fva g hg).1), map_turn h.steps t (hd _ h.fbs), h.holds, h.len,
    fun i r l h1 h2 => (h.shapes i r l h1 h2).turn t (fun g hg => hd g (h.rf g hg)), h.fbt, h.fbs, h.ne, h.fva, h.rbt, h.rbs, h.rf, fun k hk => t.lt (h.lt k hk), h.good⟩
theorem TreeAt.lt {w : World} {F : Nat → Prop} {bt : Nat} {L : List (List Nm)} (h : TreeAt w F bt L) : ∀ k, F k → k < w.heap.size := by
  obtain ⟨R, bs, va, D, rows, h⟩ := h
  exact h.lt
theorem TreeAt.good {w : World} {F : Nat → Prop} {bt : Nat} {L : List (List Nm)} (h : TreeAt w F bt L) : Good L := by
  obtain ⟨R, bs, va, D, rows, h⟩ := h
  exact h.good

theorem rows_get {rows : List (Value × Value)} {i : Nat} {r : Value × Value} (h : rows[i]? = some r) : (rows.flatMap fun r => [r.1, r.2])[i * 2]? = some r.1 ∧ (rows.flatMap fun r => [r.1, r.2])[i * 2 + 1]? = some r.2 := by
  induction rows generalizing i with
  | nil => simp at h
  | cons a l ih =>
    rcases i with _ | i
    · simp at h; subst h; simp
    · have := ih (by simpa using h)
      rw [show (i + 1) * 2 = i * 2 + 2 from by omega]
      simpa using this
/-- What there is to read of shape s. -/
theorem TreeIs.read {w : World} {F : Nat → Prop} {bt : Nat} {L : List (List Nm)} {R : Nat → Prop} {bs : Nat} {va : Value} {D : Dm} {rows : List (Value × Value)} (h : TreeIs w F bt L R bs va D rows) :
    ∃ g c, va = .slice (some ⟨g, 0, none⟩) L.length c ∧ L.length ≤ maxLen ∧ w.cell? ⟨bt, 0, none⟩ = some va ∧ w.cell? ⟨bt, 1, none⟩ = some (.map (some bs)) ∧
      ∀ s : Nat, s < L.length → ∃ v m, rows[s]? = some (v, m) ∧ w.cell? ⟨g, s * 2, none⟩ = some v ∧ w.cell? ⟨g, s * 2 + 1, none⟩ = some m ∧ ShapeAt w R v m (L.getD s []) := by
  obtain ⟨g, c, hva, _, hg, hc, hm⟩ := own_form h.row h.good.pos
  refine ⟨g, c, hva, by omega, ?_, ?_, fun s hs => ?_⟩
  · rw [cell_of_row _ _ _ _ _ (0, 0) h.cell]; rfl
  · rw [cell_of_row _ _ _ _ _ (0, 0) h.cell]; rfl
  · have hr := List.getElem?_eq_getElem (l := rows) (i := s) (by rw [h.len]; exact hs)
    have hcell := h.row.cells (g := g) (by rw [hva]; rfl)
    obtain ⟨r1, r2⟩ := rows_get hr
    have c1 := hcell _ _ r1
    have c2 := hcell _ _ r2
    rw [plain_add, Nat.zero_add] at c1 c2
    exact ⟨_, _, hr, c1, c2, h.shapes s _ _ hr (getD_get hs)⟩
end Go.Proofs.Ytaokgblkhnipgaa
