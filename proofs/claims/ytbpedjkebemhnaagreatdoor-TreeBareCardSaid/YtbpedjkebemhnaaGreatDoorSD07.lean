/- GM, GN, UI -/
import Derived.Test.YtbpedjkebemhnaaGreatDoorSD06
import Derived.Lib.OthersKept
import Derived.Lib.TrimU
import Derived.Test.YtbpedjkebemhnaaGreatDoorSD03
import Derived.Deep.LoopGhost
import Derived.Shelf.Strings.IndexFuncSpace
import Derived.Test.YtbpedjkebemhnaaGreatDoorSD04
import Derived.Test.YtbpedjkebemhnaaGreatDoorSD01
import Derived.Test.YtbpedjkebemhnaaGreatDoorSD02
import Derived.Test.YtbpedjkebemhnaaGreatDoorProg
import Derived.Deep.WholeRow
import Derived.Deep.Cut
import Derived.Deep.CutBlock
import Derived.IntWalk
set_option linter.unusedSimpArgs false
set_option linter.unusedVariables false
section
/- Texts that belong together: UD, UE, UF, UR. -/
/- Which bytes of a text are not for a string: rune by rune and byte by byte. -/
set_option linter.unusedVariables false
namespace Go.Proofs.YtbpedjkebemhnaaGreatDoor

def okS (s : Bt) : Bool := s.all (fun c => !(decide (c < 32) && c != 9 && c != 10))
/-- May not stand in a string. -/
def badC (n : Nat) : Bool := decide (n < 32) && n != 9 && n != 10
theorem dec_low (s : ByteArray) (i : Nat) (h : (s.get! i).toNat < 128) : Utf8.decode s i = ((s.get! i).toNat, 1) := by
  unfold Utf8.decode
  simp only [Nat.add_zero]
  rw [if_pos h]
theorem cont_high (s : ByteArray) (i k : Nat) (h : (decide (i + k < s.size) && (s.get! (i + k)).toNat / 64 == 2) = true) : 128 ≤ (s.get! (i + k)).toNat := by
  rw [Bool.and_eq_true, beq_iff_eq] at h
  omega
theorem dec_high (s : ByteArray) (i : Nat) (h : 128 ≤ (s.get! i).toNat) : 128 ≤ (Utf8.decode s i).1 ∧ ∀ j, j < (Utf8.decode s i).2 → 128 ≤ (s.get! (i + j)).toNat := by
  have h0 : ∀ j, j < 1 → 128 ≤ (s.get! (i + j)).toNat := by
    intro j hj
    obtain rfl : j = 0 := by omega
    exact h
  unfold Utf8.decode
  simp only [Nat.add_zero]
  rw [if_neg (by omega)]
  split
  · rename_i h1
    rw [Bool.and_eq_true] at h1
    have a1 := cont_high s i 1 h1.2
    split
    · rename_i h2
      refine ⟨h2, fun j hj => ?_⟩
      have hj : j < 2 := hj
      obtain rfl | rfl : j = 0 ∨ j = 1 := by omega
      · exact h
      · exact a1
    · exact ⟨by decide, h0⟩
  split
  · rename_i h1
    rw [Bool.and_eq_true, Bool.and_eq_true] at h1
    have a1 := cont_high s i 1 h1.1.2
    have a2 := cont_high s i 2 h1.2
    split
    · rename_i h2
      rw [Bool.and_eq_true, decide_eq_true_eq] at h2
      refine ⟨by have := h2.1; omega, fun j hj => ?_⟩
      have hj : j < 3 := hj
      obtain rfl | rfl | rfl : j = 0 ∨ j = 1 ∨ j = 2 := by omega
      · exact h
      · exact a1
      · exact a2
    · exact ⟨by decide, h0⟩
  split
  · rename_i h1
    rw [Bool.and_eq_true, Bool.and_eq_true, Bool.and_eq_true] at h1
    have a1 := cont_high s i 1 h1.1.1.2
    have a2 := cont_high s i 2 h1.1.2
    have a3 := cont_high s i 3 h1.2
    split
    · rename_i h2
      rw [Bool.and_eq_true, decide_eq_true_eq] at h2
      refine ⟨by have := h2.1; omega, fun j hj => ?_⟩
      have hj : j < 4 := hj
      obtain rfl | rfl | rfl | rfl : j = 0 ∨ j = 1 ∨ j = 2 ∨ j = 3 := by omega
      · exact h
      · exact a1
      · exact a2
      · exact a3
    · exact ⟨by decide, h0⟩
  · exact ⟨by decide, h0⟩
theorem get_at (s : Bt) (i : Nat) (h : i < s.length) : ((⟨s.toArray⟩ : ByteArray).get! i) = s[i] := by
  show s.toArray[i]! = s[i]
  rw [getElem!_pos s.toArray i (by simpa using h)]
  simp
theorem bad_byte (c : UInt8) : badC c.toNat = (decide (c < 32) && c != 9 && c != 10) := by
  have h1 : (decide (c.toNat < 32)) = decide (c < 32) := by
    rw [decide_eq_decide, UInt8.lt_iff_toNat_lt]; rfl
  have h2 : ∀ d : UInt8, (c.toNat != d.toNat) = (c != d) := by
    intro d
    by_cases h : c = d
    · subst h; simp
    · have : c.toNat ≠ d.toNat := fun e => h (UInt8.toNat_inj.1 e)
      simp [bne, beq_eq_false_iff_ne.2 h, beq_eq_false_iff_ne.2 this]
  unfold badC
  rw [h1, show (9 : Nat) = (9 : UInt8).toNat from rfl, show (10 : Nat) = (10 : UInt8).toNat from rfl, h2, h2]
/-- The bytes up to a place are for a string. -/
def FineTo (s : Bt) (p : Nat) : Prop := ∀ j, j < p → ∀ h : j < s.length, badC s[j].toNat = false
theorem fine_step {s : Bt} {p : Nat} (h : FineTo s p) (hp : p < s.length) (hb : badC (Utf8.decode ⟨s.toArray⟩ p).1 = false) : FineTo s (p + (Utf8.decode ⟨s.toArray⟩ p).2) := by
  intro j hj hl
  rcases Nat.lt_or_ge j p with h1 | h1
  · exact h j h1 hl
  · rcases Nat.lt_or_ge ((⟨s.toArray⟩ : ByteArray).get! p).toNat 128 with h2 | h2
    · rw [dec_low _ _ h2] at hj hb
      have hj : j < p + 1 := hj
      obtain rfl : j = p := by omega
      rw [get_at s j hl] at hb
      exact hb
    · have h3 := (dec_high _ _ h2).2 (j - p) (by omega)
      rw [show p + (j - p) = j by omega, get_at s j hl] at h3
      have : decide (s[j].toNat < 32) = false := decide_eq_false (by omega)
      unfold badC
      rw [this]; rfl
theorem bad_here {s : Bt} {p : Nat} (hp : p < s.length) (hb : badC (Utf8.decode ⟨s.toArray⟩ p).1 = true) : s.all (fun c => !(decide (c < 32) && c != 9 && c != 10)) = false := by
  rcases Nat.lt_or_ge ((⟨s.toArray⟩ : ByteArray).get! p).toNat 128 with h2 | h2
  · rw [dec_low _ _ h2, get_at s p hp] at hb
    cases ha : s.all (fun c => !(decide (c < 32) && c != 9 && c != 10)) with
    | false => rfl
    | true =>
      have := List.all_eq_true.1 ha _ (List.getElem_mem hp)
      rw [← bad_byte] at this
      have hb : badC s[p].toNat = true := hb
      rw [hb] at this
      cases this
  · have h3 := (dec_high _ _ h2).1
    unfold badC at hb
    rw [decide_eq_false (by omega)] at hb
    cases hb
theorem fine_all {s : Bt} {p : Nat} (h : FineTo s p) (hp : s.length ≤ p) : s.all (fun c => !(decide (c < 32) && c != 9 && c != 10)) = true := by
  rw [List.all_eq_true]
  intro c hc
  obtain ⟨j, hj, rfl⟩ := List.getElem_of_mem hc
  rw [← bad_byte, h j (by omega) hj]
  rfl
end Go.Proofs.YtbpedjkebemhnaaGreatDoor

/- Which texts may be strings: tree.str. -/
set_option linter.unusedVariables false
namespace Go.Proofs.YtbpedjkebemhnaaGreatDoor
open Go.RowKit

theorem strf_any (R : Nat) (w : World) (h1 : R ≤ 1114111) : Calls Tryz.prog 143 #[.int .i32 (R : Int)] w fun e w' => e = .returned (.bool (badC R)) ∧ w' = w := by
  by_cases h32 : R < 32
  · have g1 : decide ((R : Int) < 32) = true := by simp; omega
    by_cases h9 : R = 9
    · subst h9
      go_enter Tryz.func143, Tryz.ntmps143
      go_wp2_with fail
      go_ret
      exact ⟨rfl, rfl⟩
    · by_cases h10 : R = 10
      · subst h10
        go_enter Tryz.func143, Tryz.ntmps143
        go_wp2_with fail
        go_ret
        exact ⟨rfl, rfl⟩
      · have g2 : ((R : Int) != 9) = true := by rw [bne_iff_ne]; omega
        have g3 : ((R : Int) != 10) = true := by rw [bne_iff_ne]; omega
        have HT : Hid (badC R = true) := hid (by unfold badC; simp [h32, h9, h10])
        rw [HT.out]
        clear h32 h9 h10 h1
        go_enter Tryz.func143, Tryz.ntmps143
        go_wp2_with fail
        go_ret
        exact ⟨rfl, rfl⟩
  · have g1 : decide ((R : Int) < 32) = false := by simp; omega
    have HT : Hid (badC R = false) := hid (by unfold badC; simp [h32])
    rw [HT.out]
    clear h32 h1
    go_enter Tryz.func143, Tryz.ntmps143
    go_wp2_with fail
    go_ret
    exact ⟨rfl, rfl⟩

/-- Where the first that no string may have stands, or -1. -/
def AtBad (s : Bt) (w : World) (e : Ending) (w' : World) : Prop := (∃ k : Int, e = .returned (.int .i64 k) ∧ (if okS s then k = -1 else 0 ≤ k)) ∧ Below w.heap.size w w'
set_option maxHeartbeats 2000000 in
set_option maxRecDepth 1000000 in
theorem indexbad_any (s : Bt) (w : World) :
    Calls Tryz.prog 174 #[sv s, .func (.func 143) #[] #[], .bool true] w (AtBad s w) := by
  have hsz := sv_size s
  obtain ⟨bs, hbs⟩ : ∃ bs : ByteArray, bs = ⟨s.toArray⟩ := ⟨_, rfl⟩
  have HBS := hid hbs
  rw [← hbs] at hsz
  show Calls Tryz.prog 174 #[.string ⟨s.toArray⟩, .func (.func 143) #[] #[], .bool true] w _
  rw [← hbs]
  clear hbs
  go_enter Tryz.func174, Tryz.ntmps174
  go_wp2_with fail
  go_loopg [] s.length (fun g wx => ∃ pos : Nat, wx.heap[w.heap.size]? = some (.stringIter bs pos) ∧ Below w.heap.size w wx ∧ FineTo s pos ∧ s.length ≤ pos + g)
  case atStart => exact ⟨0, World.iter_heap w bs 0, (Below.refl _ w).alloc (Nat.le_refl _) _, fun j hj => by omega, by omega⟩
  case round =>
    obtain ⟨pos, hit, hbw, hleft, hfu⟩ := hrel
    have hszw : w.heap.size < wr.heap.size := (Array.getElem?_eq_some_iff.1 hit).1
    by_cases hp : pos < bs.size
    · obtain ⟨g, rfl⟩ : ∃ g, gk = g + 1 := ⟨gk - 1, by omega⟩
      have hnx : ∀ ty, (Instr.next (.pointer (some ⟨w.heap.size, 0, none⟩)) true ty).run Tryz.prog wr = _ := fun ty => Lib.run_next_any_at wr w.heap.size bs pos ty hit hp
      have hwd := Lib.width_pos bs pos
      have hr1 := Lib.rune_le bs pos
      have hst : ∀ R K, Utf8.decode bs pos = (R, K) → (badC R = false → FineTo s (pos + K)) ∧ (badC R = true → okS s = false) := by
        intro R K h
        rw [HBS.out] at h
        have hps : pos < s.length := by omega
        constructor
        · intro hb
          have := fine_step hleft hps (by rw [h]; exact hb)
          rw [h] at this
          exact this
        · intro hb
          exact bad_here hps (by rw [h]; exact hb)
      obtain ⟨R, hR⟩ : ∃ R, (Utf8.decode bs pos).1 = R := ⟨_, rfl⟩
      obtain ⟨K, hK⟩ : ∃ K, (Utf8.decode bs pos).2 = K := ⟨_, rfl⟩
      have hst := hst R K (by rw [← hR, ← hK])
      rw [hR, hK] at hnx
      rw [hR] at hr1
      rw [hK] at hwd
      have hit2 := Lib.iterAt_heap wr w.heap.size bs pos (pos + K) hit
      have hbw2 := Lib.below_iterAt hbw (k := w.heap.size) (Nat.le_refl _) bs (pos + K)
      obtain ⟨W, hWd⟩ : ∃ W, wr.iterAt w.heap.size bs (pos + K) = W := ⟨_, rfl⟩
      rw [hWd] at hnx hit2 hbw2
      have HC := hid (strf_any R W hr1)
      have HB2 := hid hbw2
      have HIT := hid hit2
      cases hb : badC R with
      | true =>
        rw [hb] at HC
        have HE := hid (hst.2 hb)
        clear hst hb hR hK hleft
        go_wp2_with fail
        refine HC.out.mono ?_
        rintro e w2 ⟨rfl, rfl⟩
        go_wp2_with fail
        go_ret
        exact ⟨⟨pos, rfl, by rw [HE.out]; simp⟩, HB2.out⟩
      | false =>
        rw [hb] at HC
        have HE := hid (hst.1 hb)
        clear hst hb hR hK hleft
        go_wp2_with fail
        refine HC.out.mono ?_
        rintro e w2 ⟨rfl, rfl⟩
        go_wp2_with fail
        go_roundg g
        case measure => omega
        case rel => exact ⟨pos + K, HIT.out, HB2.out, HE.out, by omega⟩
    · have hnx : ∀ ty, (Instr.next (.pointer (some ⟨w.heap.size, 0, none⟩)) true ty).run Tryz.prog wr = _ := fun ty => Lib.run_next_end_at wr w.heap.size bs pos ty hit hp
      have HE : Hid (okS s = true) := hid (fine_all hleft (by omega))
      have HB := hid hbw
      clear hleft hbw
      go_wp2_with fail
      go_ret
      exact ⟨⟨-1, rfl, by rw [HE.out]; simp⟩, HB.out⟩
theorem containsbad_any (s : Bt) (w : World) :
    Calls Tryz.prog 142 #[sv s, .func (.func 143) #[] #[]] w fun e w' => e = .returned (.bool (!okS s)) ∧ Below w.heap.size w w' := by
  have HI : Hid (∀ w1, Calls Tryz.prog 157 #[sv s, .func (.func 143) #[] #[]] w1 (AtBad s w1)) := hid (by
    intro w1
    have HJ := hid (indexbad_any s w1)
    go_enter Tryz.func157, Tryz.ntmps157
    go_wp2_with fail
    refine HJ.out.mono ?_
    rintro e w2 ⟨⟨k, rfl, hk⟩, hbel⟩
    have HK := hid hk
    clear hk
    go_wp2_with fail
    go_ret
    exact ⟨⟨k, rfl, HK.out⟩, hbel⟩)
  cases hb : okS s
  all_goals
    go_enter Tryz.func142, Tryz.ntmps142
    go_wp2_with fail
    refine (HI.out w).mono ?_
    rintro e w2 ⟨⟨k, rfl, hk⟩, hbel⟩
    rw [hb] at hk
    simp only [Bool.false_eq_true, if_false, if_true] at hk
    have HB := hid hbel
    clear hbel hb HI
  · have hg : decide (0 ≤ k) = true := by simpa using hk
    go_wp2_with fail
    go_ret
    exact ⟨rfl, HB.out⟩
  · subst hk
    go_wp2_with fail
    go_ret
    exact ⟨rfl, HB.out⟩
theorem tstr_any (s : Bt) (w : World) (hs : s.length ≤ maxLen) :
    Calls Tryz.prog 120 #[sv s] w fun e w' => e = .returned (.bool (strB s)) ∧ Below w.heap.size w w' := by
  have hsz := sv_size s
  unfold maxLen at hs
  by_cases hl : s.length ≤ 256
  · have hg : decide ((s.length : Int) ≤ 256) = true := by simp; omega
    have HT : Hid (strB s = okS s) := hid (by unfold strB okS; rw [decide_eq_true hl]; rfl)
    rw [HT.out]
    have HC := hid (containsbad_any s w)
    clear hl
    generalize okS s = b at *
    go_enter Tryz.func120, Tryz.ntmps120
    go_wp2_with fail
    refine HC.out.mono ?_
    rintro e w2 ⟨rfl, hb⟩
    go_wp2_with fail
    go_ret
    cases b <;> exact ⟨rfl, hb⟩
  · have hg : decide ((s.length : Int) ≤ 256) = false := by simp; omega
    have HT : Hid (strB s = false) := hid (by unfold strB; rw [decide_eq_false hl]; rfl)
    rw [HT.out]
    clear hl
    go_enter Tryz.func120, Tryz.ntmps120
    go_wp2_with fail
    go_ret
    exact ⟨rfl, Below.refl _ _⟩
end Go.Proofs.YtbpedjkebemhnaaGreatDoor

/- The operations: tree.Ops, and the reference's. -/
set_option linter.unusedVariables false
namespace Go.Proofs.YtbpedjkebemhnaaGreatDoor
open Go.RowKit

def opsT : Bt := [111, 114, 32, 97, 110, 100, 32, 60, 32, 60, 61, 32, 61, 61, 32, 43, 43, 32, 43, 32, 45, 32, 94, 32, 42, 32, 47, 32, 37, 32, 38, 32, 60, 60, 32, 62, 62]
theorem ops_fields : Lib.fields opsT = opsL := by kernel_rfl
theorem ops_ascii : (opsT.all fun b => decide (b.toNat < 128)) = true := by kernel_rfl
theorem ops_list : (⟨opsT.toArray⟩ : ByteArray).data.toList = opsT := rfl
set_option maxRecDepth 100000 in
theorem ops_any (w : World) (hL : LaidT w) : Calls Tryz.prog 18 #[] w fun e w' => ∃ v, e = .returned v ∧ Ss w' w'.heap.size v opsL ∧ Below w.heap.size w w' := by
  go_enter Tryz.func18, Tryz.ntmps18
  go_wp2_with fail
  refine (Tryz.strings_Fields ⟨opsT.toArray⟩ _ ?h1 ?h2 hL.2).mono ?_
  case h1 => decide
  case h2 =>
    intro j b hb
    rw [ops_list] at hb
    exact of_decide_eq_true (List.all_eq_true.1 ops_ascii b (List.mem_of_getElem? hb))
  rintro e w1 ⟨rfl, rfl⟩
  rw [ops_list, ops_fields]
  have hss : Ss (w.alloc (.cells (opsL.map fun l => Value.string ⟨l.toArray⟩).toArray 9)) (w.alloc (.cells (opsL.map fun l => Value.string ⟨l.toArray⟩).toArray 9)).heap.size (.slice (some ⟨w.heap.size, 0, none⟩) opsL.length opsL.length) opsL := by
    have := sl_new w (opsL.map fun l => Value.string ⟨l.toArray⟩).toArray 9 1 opsL.length (by simp) (by decide)
    rw [World.size_alloc]
    simpa [Ss, svs] using this
  have hb : Below w.heap.size w (w.alloc (.cells (opsL.map fun l => Value.string ⟨l.toArray⟩).toArray 9)) := (Below.refl _ _).alloc (Nat.le_refl _) _
  generalize (w.alloc (.cells (opsL.map fun l => Value.string ⟨l.toArray⟩).toArray 9)) = w2 at *
  generalize opsL.length = n at *
  go_wp2_with fail
  go_ret
  exact ⟨_, rfl, hss, hb⟩
end Go.Proofs.YtbpedjkebemhnaaGreatDoor

/- The reference's small functions: Ops, op, names, str. -/
set_option linter.unusedVariables false
namespace Go.Proofs.YtbpedjkebemhnaaGreatDoor
open Go.RowKit

end Go.Proofs.YtbpedjkebemhnaaGreatDoor
end
section
/- Texts that belong together: UG, UH. -/
/- Is a node's text right: tree.text. -/
set_option linter.unusedVariables false
namespace Go.Proofs.YtbpedjkebemhnaaGreatDoor
open Go.RowKit

set_option maxRecDepth 100000 in
set_option maxHeartbeats 2000000 in
theorem text_any (w : World) (k : Int) (text : Bt) (v2 v3 v4 : Int) (A5 : Option Addr) (n5 c5 : Nat) (A6 : Option Addr) (n6 c6 : Nat) (A7 : Option Addr) (n7 c7 : Nat) (ht : text.length ≤ maxLen) (hX : LaidT w) (b : Bool) (a1 a2 a3 a4 : Int) :
    Calls Tryz.prog 71 #[.agg #[.int .i64 k, sv text, .int .i64 v2, .int .i64 v3, .int .i64 v4, .slice A5 n5 c5, .slice A6 n6 c6, .slice A7 n7 c7], .agg #[.bool b, .int .i64 a1, .int .i64 a2, .int .i64 a3, .int .i64 a4]] w fun e w' => e = .returned (.bool (textB k text b)) ∧ Below w.heap.size w w' := by
  obtain ⟨W, hW⟩ : ∃ W, (w.alloc (.cells #[.int .i64 k, sv text, .int .i64 v2, .int .i64 v3, .int .i64 v4, .slice A5 n5 c5, .slice A6 n6 c6, .slice A7 n7 c7] 26)).alloc (.cells #[.bool b, .int .i64 a1, .int .i64 a2, .int .i64 a3, .int .i64 a4] 105) = W := ⟨_, rfl⟩
  have hb2 : Below w.heap.size w W := by rw [← hW]; exact ((Below.refl _ _).alloc (Nat.le_refl _) _).alloc (by simp) _
  have HB := hid hb2
  have HW := hid hW
  have HX := hid (hX.below hb2)
  have HNM := hid (name_all W text (hX.below hb2) ht)
  have HST := hid (tstr_any text W ht)
  have hbx : W.heap[w.heap.size]? = some (.cells #[.int .i64 k, sv text, .int .i64 v2, .int .i64 v3, .int .i64 v4, .slice A5 n5 c5, .slice A6 n6 c6, .slice A7 n7 c7] 26 (0, 0)) := by rw [← hW]; exact (two_new w _ _).1
  obtain ⟨_, g1, _⟩ := t_row8 hbx
  have G1 := hid g1
  clear hX hbx g1 hb2 ht
  cases b with
  | true =>
    have HT : Hid (textB k text true = nameL text) := hid rfl
    rw [HT.out]
    rw [← hW] at HNM
    clear hW
    generalize nameL text = q at *
    go_enter Tryz.func71, Tryz.ntmps71
    go_wp2_with fail
    refine HNM.out.mono ?_
    rintro e w2 ⟨rfl, hb⟩
    have hW := HW.out
    rw [hW] at hb
    go_wp2_with fail
    go_ret
    exact ⟨rfl, HB.out.trans (hb.mono HB.out.size)⟩
  | false =>
    by_cases k1 : k = 1
    · subst k1
      have HT : Hid (textB 1 text false = strB text) := hid rfl
      rw [HT.out]
      rw [← hW] at HST
      clear hW
      generalize strB text = q at *
      go_enter Tryz.func71, Tryz.ntmps71
      go_wp2_with fail
      refine HST.out.mono ?_
      rintro e w2 ⟨rfl, hb⟩
      have hW := HW.out
      rw [hW] at hb
      go_wp2_with fail
      go_ret
      exact ⟨rfl, HB.out.trans (hb.mono HB.out.size)⟩
    have q1 : (k == 1) = false := beq_eq_false_iff_ne.mpr k1
    by_cases k14 : k = 14
    · subst k14
      have HT : Hid (textB 14 text false = decide (text ∈ opsL)) := hid (by show opsL.contains text = _; rw [List.contains_eq_mem])
      rw [HT.out]
      clear hW k1 q1
      have HB0 : Hid (Below W.heap.size W W.drew) := hid (below_drawn W 1)
      have HO := hid (ops_any W.drew (HX.out.below HB0.out))
      have HCC := hid (fun v (w1 : World) (h : Ss w1 w1.heap.size v opsL) => contains_any v opsL text w1 h)
      clear HT HNM HST
      generalize decide (text ∈ opsL) = q at *
      go_enter Tryz.func71, Tryz.ntmps71
      go_wp2_with fail
      have hW := HW.out
      rw [hW]
      clear hW
      refine wp_region_held_drew (S := fun w' => Below W.heap.size W w') (by kernel_rfl) HB0.out (fun _ => ?_)
      try simp only [Act.put, List.getElem_toArray, List.getElem_cons_zero, List.getElem_cons_succ, List.setIfInBounds_toArray, List.set_cons_zero, List.set_cons_succ]
      refine tk 1 (.pointer (some ⟨w.heap.size, 1, none⟩)) HB0.out ?_
      refine tkf 2 (sv text) (kp1 G1.out) HB0.out ?_
      refine wpAnyH_ready (rs := [0]) (by kernel_rfl) (by simp) ?_
      refine AllReadyH.cons rfl (fun K hK => ?_) (AllReadyH.nil)
      go_simp
      refine HO.out.mono ?_
      rintro e w2 ⟨v2, rfl, hss, hb⟩
      have HSS := hid hss
      have HB2 := hid (HB0.out.trans (hb.mono HB0.out.size))
      clear hb hss
      refine hK.out _ _ HB2.out (fun _ => ?_)
      clear hK K
      try simp only [Act.put, List.getElem_toArray, List.getElem_cons_zero, List.getElem_cons_succ, List.setIfInBounds_toArray, List.set_cons_zero, List.set_cons_succ]
      refine wpAnyH_ready (rs := [3]) (by kernel_rfl) (by simp) ?_
      refine AllReadyH.cons rfl (fun K hK => ?_) (AllReadyH.nil)
      go_simp
      refine (HCC.out _ _ HSS.out).mono ?_
      rintro e w3 ⟨rfl, rfl⟩
      refine hK.out _ _ HB2.out (fun _ => ?_)
      clear hK K
      try simp only [Act.put, List.getElem_toArray, List.getElem_cons_zero, List.getElem_cons_succ, List.setIfInBounds_toArray, List.set_cons_zero, List.set_cons_succ]
      refine tk 4 (.bool q) HB2.out ?_
      refine wpAnyH_done (by kernel_rfl) ?_ _
      go_wp2_with fail
      go_ret
      exact ⟨rfl, HB.out.trans (HB2.out.mono HB.out.size)⟩
    have q14 : (k == 14) = false := beq_eq_false_iff_ne.mpr k14
    have HT : Hid (textB k text false = (text == [])) := hid (by unfold textB; rw [if_neg (by simp), if_neg k1, if_neg k14])
    rw [HT.out]
    clear hW k1 k14 HNM HST HT
    rw [← HW.out] at HB
    cases hq : (text == []) with
    | true =>
      obtain rfl : text = [] := by simpa using hq
      go_enter Tryz.func71, Tryz.ntmps71
      go_wp2_with fail
      go_ret
      exact ⟨rfl, HB.out⟩
    | false =>
      go_enter Tryz.func71, Tryz.ntmps71
      go_wp2_with fail
      go_ret
      exact ⟨rfl, HB.out⟩
end Go.Proofs.YtbpedjkebemhnaaGreatDoor

/- What each kind of node has: tree.kinds. -/
set_option linter.unusedVariables false
namespace Go.Proofs.YtbpedjkebemhnaaGreatDoor
open Go.RowKit

theorem results_cell {P : Program} {fn : Func} {p : Tmp} {ty : TypeId} (h : fn.results = #[.cell p ty]) (tmps : Array Value) (w : World) (g : Nat) (t : TypeId) (cs : Array Value) (fr : Nat × Nat) (d : TypeDesc)
    (hp : tmps.getD p undef = .pointer (some ⟨g, 0, none⟩)) (hg : w.heap[g]? = some (.cells cs t fr))
    (hu : P.underlying ty = some d) (hd : (match d with | .struct _ | .array _ _ => true | _ => false) = true) (hi : (P.info? ty).map (·.size) = some cs.size) :
    (results fn tmps).run P w = .ok (.agg cs) w := by
  have hp' : tmps[p]?.getD undef = .pointer (some ⟨g, 0, none⟩) := by simpa using hp
  simp [results, h, hp', asAddr, run_loadVar_row w g t ty cs fr d hg hu hd hi, Result.andThen]
def kindsL : List Value := [.bool false, .int .i64 0, .int .i64 0, .int .i64 0, .int .i64 9223372036854775807, .bool false, .int .i64 0, .int .i64 0, .int .i64 0, .int .i64 0, .bool false, .int .i64 0, .int .i64 0, .int .i64 0, .int .i64 1, .bool false, .int .i64 0, .int .i64 0, .int .i64 0, .int .i64 0, .bool true, .int .i64 0, .int .i64 0, .int .i64 0, .int .i64 0, .bool true, .int .i64 0, .int .i64 1, .int .i64 2, .int .i64 0, .bool true, .int .i64 1, .int .i64 2, .int .i64 1, .int .i64 0, .bool false, .int .i64 0, .int .i64 0, .int .i64 2, .int .i64 0, .bool false, .int .i64 0, .int .i64 0, .int .i64 (-1), .int .i64 0, .bool true, .int .i64 0, .int .i64 0, .int .i64 1, .int .i64 0, .bool true, .int .i64 0, .int .i64 0, .int .i64 2, .int .i64 0, .bool false, .int .i64 0, .int .i64 0, .int .i64 3, .int .i64 0, .bool false, .int .i64 0, .int .i64 0, .int .i64 1, .int .i64 5, .bool false, .int .i64 1, .int .i64 1, .int .i64 1, .int .i64 0, .bool false, .int .i64 0, .int .i64 0, .int .i64 2, .int .i64 0, .bool false, .int .i64 0, .int .i64 0, .int .i64 1, .int .i64 0, .bool false, .int .i64 0, .int .i64 0, .int .i64 1, .int .i64 0, .bool false, .int .i64 0, .int .i64 0, .int .i64 1, .int .i64 0, .bool false, .int .i64 0, .int .i64 0, .int .i64 0, .int .i64 0, .bool true, .int .i64 1, .int .i64 1048576, .int .i64 0, .int .i64 0]
set_option maxRecDepth 100000 in
set_option maxHeartbeats 2000000 in
theorem kinds_all (w : World) : Calls Tryz.prog 70 #[] w fun e w' => e = .returned (.agg kindsL.toArray) ∧ Below w.heap.size w w' := by
  have hst : ∀ L : List Value, L = kindsL → (storeCells ⟨w.heap.size, 0, none⟩ L 0).run Tryz.prog (w.alloc (.cells Tryz.zeroCells106 106)) = .ok () (w.alloc (.cells kindsL.toArray 106)) := by
    intro L h
    subst h
    have := run_storeCells_new (P := Tryz.prog) w 106 Tryz.zeroCells106 kindsL.toArray (by kernel_rfl) (by kernel_rfl) (by kernel_rfl)
    simpa using this
  go_enter Tryz.func70, Tryz.ntmps70
  go_wp2_with fail
  rw [hst _ (by kernel_rfl)]
  clear hst
  have hK : kindsL.toArray.size = 100 := by kernel_rfl
  generalize hKL : kindsL.toArray = L at *
  go_wp2_with fail
  refine bodyPost_ret (results_cell rfl _ _ w.heap.size _ _ _ _ rfl (heap_alloc_new w _) Tryz.underlying106 rfl (by rw [hK]; kernel_rfl)) rfl ?_
  exact ⟨by rw [hKL], (Below.refl _ _).alloc (Nat.le_refl _) _⟩
def hasV (h : HasD) : Value := .agg #[.bool h.name, .int .i64 (h.low : Int), .int .i64 (h.types : Int), .int .i64 h.kids, .int .i64 h.most]
theorem kinds_index (k : Int) (h0 : 0 ≤ k) (h1 : k < 20) (u : World) : (Instr.index 106 (.agg kindsL.toArray) (.int .i64 k)).run Tryz.prog u = .ok (hasV (hasD k)) u := by
  have h : k = 0 ∨ k = 1 ∨ k = 2 ∨ k = 3 ∨ k = 4 ∨ k = 5 ∨ k = 6 ∨ k = 7 ∨ k = 8 ∨ k = 9 ∨ k = 10 ∨ k = 11 ∨ k = 12 ∨ k = 13 ∨ k = 14 ∨ k = 15 ∨ k = 16 ∨ k = 17 ∨ k = 18 ∨ k = 19 := by omega
  clear h0 h1
  rcases h with rfl | rfl | rfl | rfl | rfl | rfl | rfl | rfl | rfl | rfl | rfl | rfl | rfl | rfl | rfl | rfl | rfl | rfl | rfl | rfl
  all_goals (show _ = _; kernel_rfl)
theorem kinds_any (w : World) : Calls Tryz.prog 70 #[] w fun e w' => (∃ v, e = .returned v ∧ ∀ k : Int, 0 ≤ k → k < 20 → ∀ u, (Instr.index 106 v (.int .i64 k)).run Tryz.prog u = .ok (hasV (hasD k)) u) ∧ Below w.heap.size w w' :=
  (kinds_all w).mono fun e w' h => ⟨⟨_, h.1, fun k h0 h1 u => kinds_index k h0 h1 u⟩, h.2⟩
end Go.Proofs.YtbpedjkebemhnaaGreatDoor
end
section
/- Which nodes are expressions: tree.node. -/
set_option linter.unusedVariables false
namespace Go.Proofs.YtbpedjkebemhnaaGreatDoor
open Go.RowKit

/-- The contract of node, so many within one another. -/
def NdC (m : Nat) : Prop := ∀ (w : World) (z : List Value) (x : NoD), NoR w w.heap.size z x → okN x → LaidT w →
  Calls Tryz.prog 32 #[.agg z.toArray, .int .i64 (m : Int)] w fun e w' => e = .returned (.bool (nodeB m x)) ∧ Below w.heap.size w w'
theorem node_shape (m : Nat) (k : Int) (text : Bt) (n li co : Int) (ts : List TyD) (ns : List Bt) (ks : List NoD) : nodeB (m + 1) (.mk k text n li co ts ns ks) =
    (decide (0 ≤ k ∧ k < 20) && ownN k text n ts.length ns.length ks.length && ns.all nameL && ts.all (writtenB 16) && ks.all (nodeB m)) := rfl
theorem node_zero : NdC 0 := by
  intro w z x hr hok hX
  have hw : nodeB 0 x = false := rfl
  rw [hw]
  obtain ⟨k, s, n, l, o, A1, n1, c1, A2, n2, c2, A3, n3, c3, rfl⟩ := hr.shape
  have HB : Hid (Below w.heap.size w (w.alloc (.cells #[.int .i64 k, .string s, .int .i64 n, .int .i64 l, .int .i64 o, .slice A1 n1 c1, .slice A2 n2 c2, .slice A3 n3 c3] 26))) := hid ((Below.refl _ _).alloc (Nat.le_refl _) _)
  clear hr hok hX hw
  go_enter Tryz.func32, Tryz.ntmps32
  go_wp2_with fail
  go_ret
  exact ⟨rfl, HB.out⟩
/-- The numbers of kids that a kind asks for. -/
def kidsOf (k : Int) (names : Nat) : Int := if k < 0 then names else k
theorem own_kids (k : Int) (text : Bt) (n : Int) (a b d : Nat) : ownN k text n a b d = (decide (0 ≤ n ∧ n ≤ (hasD k).most) && textB k text (hasD k).name && decide ((hasD k).low ≤ a ∧ a ≤ (hasD k).types) && (decide ((hasD k).kids < 0 ∨ b = 0) && decide ((d : Int) = kidsOf (hasD k).kids b))) := by
  unfold ownN kidsOf
  congr 1
  by_cases h : (hasD k).kids < 0
  · rw [if_pos h, if_pos h]
    by_cases h2 : d = b
    · subst h2; simp [h]
    · have : ¬ (d : Int) = (b : Int) := by omega
      simp [h, h2, this]
  · rw [if_neg h, if_neg h]
    by_cases h2 : b = 0
    · subst h2
      by_cases h3 : (d : Int) = (hasD k).kids
      · simp [h3]
      · simp [h3]
    · simp [h, h2]
/-- A struct stored into a block of its own: one step of a region. -/
theorem step_store_row {P : Program} {ops : Array Oper} {o : Oper} {a : Act} {w : World} {K : Act → World → Prop} {Q : Exit → Act → World → Prop} {E : Prop} (hgd : o.guard = none) (ty : TypeId) (x y : Operand) (ho : o.op = .store ty x y)
    (g : Nat) (cells : Array Value) (hx : a.eval x = .pointer (some ⟨g, 0, none⟩)) (hy : a.eval y = .agg cells)
    (t : TypeId) (old : Array Value) (hg : w.heap[g]? = some (.cells old t (0, 0))) (hi : (P.info? ty).map (·.size) = some cells.size)
    (hold : old.size = cells.size) (h1 : cells.all (·.oneCell') = true) (h : K (a.put o.dst undef) (w.setRow g cells)) :
    if Region.wanted o (yielded ops a.tmps) = true then Oper.wp P o a w K Q else E := by
  have hw : Region.wanted o (yielded ops a.tmps) = true := by simp [Region.wanted, hgd]
  rw [if_pos hw]
  exact wp_store_row ty x y ho g cells hx hy t old hg hi hold h1 h
set_option maxRecDepth 100000 in
set_option maxHeartbeats 8000000 in
theorem node_succ (m : Nat) (hm : m ≤ 40) (ih : NdC m) : NdC (m + 1) := by
  intro w z x hr hok hX
  obtain ⟨k, text, n, li, co, ts, ns, ks⟩ := x
  rw [okN] at hok
  obtain ⟨ok1, ok2, ok3, ok4, ok5, ok6, ok7, ok8⟩ := hok
  obtain ⟨A1, c1, A2, c2, A3, c3, xt, xk, rfl, s1, r1, s2, s3, r3⟩ := hr.parts
  have l1 := (t_sl_len s1).2
  have l2 := (t_sl_len s2).2
  have l3 := (t_sl_len s3).2
  have hres0 := node_shape m k text n li co ts ns ks
  rw [own_kids] at hres0
  obtain ⟨res, hres⟩ : ∃ res, nodeB (m + 1) (.mk k text n li co ts ns ks) = res := ⟨_, rfl⟩
  rw [hres] at hres0 ⊢
  clear hres hr
  obtain ⟨W, hW⟩ : ∃ W, w.alloc (.cells #[.int .i64 k, sv text, .int .i64 n, .int .i64 li, .int .i64 co, .slice A1 ts.length c1, .slice A2 ns.length c2, .slice A3 ks.length c3] 26) = W := ⟨_, rfl⟩
  have hb1 : Below w.heap.size w W := by rw [← hW]; exact (Below.refl _ _).alloc (Nat.le_refl _) _
  have hbx : W.heap[w.heap.size]? = some (.cells #[.int .i64 k, sv text, .int .i64 n, .int .i64 li, .int .i64 co, .slice A1 ts.length c1, .slice A2 ns.length c2, .slice A3 ks.length c3] 26 (0, 0)) := by rw [← hW]; exact heap_alloc_new w _
  have HX := hid (hX.below hb1)
  have HTT := hid (And.intro (Sl.more (Sl.below s1 hb1) hb1.size) ((r1.keep hb1).more hb1.size))
  have HKK := hid (And.intro (Sl.more (Sl.below s3 hb1) hb1.size) ((r3.keep hb1).more hb1.size))
  have hs2 := Sl.more (Sl.below s2 hb1) hb1.size
  have HNM := hid (fun wr (h : Below W.heap.size W wr) => tnamed_any _ ns wr (Sl.more (Sl.below hs2 h) h.size) ok7 (HX.out.below h))
  have HTX := hid (fun wr (h : Below W.heap.size W wr) (b : Bool) (a1 a2 a3 a4 : Int) => text_any wr k text n li co A1 ts.length c1 A2 ns.length c2 A3 ks.length c3 ok2 (HX.out.below h) b a1 a2 a3 a4)
  have HOT := hid ok6
  have HOK := hid (okNs_mem.1 ok8)
  have HIH := hid ih
  have HWR := hid (written_all 16 (by omega))
  have HBX := hid hbx
  have HB1 := hid hb1
  have HRES := hid hres0
  have HWE := hid hW
  have hn64 := ok3
  clear s1 r1 s2 s3 r3 ok1 ok2 ok3 ok4 ok5 ok6 ok7 ok8 hX ih hb1 hbx hres0 hs2 hW
  obtain ⟨a, hA⟩ : ∃ a, ts.length = a := ⟨_, rfl⟩
  obtain ⟨b, hB⟩ : ∃ b, ns.length = b := ⟨_, rfl⟩
  obtain ⟨d, hD⟩ : ∃ d, ks.length = d := ⟨_, rfl⟩
  rw [hA] at l1 HTT HTX HBX HWE HRES ⊢
  rw [hB] at l2 HNM HTX HBX HWE HRES ⊢
  rw [hD] at l3 HKK HTX HBX HWE HRES ⊢
  have HA := hid hA
  have HD := hid hD
  clear hA hB hD
  have hm0 : (((m : Int) + 1) == 0) = false := by rw [beq_eq_false_iff_ne]; omega
  have hm1 : (((m + 1 : Nat) : Int) == 0) = false := by rw [beq_eq_false_iff_ne]; omega
  generalize ns.all nameL = q at *
  by_cases h0 : k < 0
  · have g4 : decide (k < 0) = true := by simpa using h0
    have HF : Hid (res = false) := hid (by rw [HRES.out, decide_eq_false (by omega : ¬ (0 ≤ k ∧ k < 20))]; rfl)
    clear h0 hn64
    go_enter Tryz.func32, Tryz.ntmps32
    go_wp2_with fail
    go_ret
    refine ⟨by rw [HF.out]; rfl, ?_⟩
    rw [HWE.out]
    exact HB1.out
  have g4 : decide (k < 0) = false := by simpa using h0
  by_cases h20 : 20 ≤ k
  · have g5 : decide (20 ≤ k) = true := by simpa using h20
    have HF : Hid (res = false) := hid (by rw [HRES.out, decide_eq_false (by omega : ¬ (0 ≤ k ∧ k < 20))]; rfl)
    clear h0 h20 hn64
    go_enter Tryz.func32, Tryz.ntmps32
    go_wp2_with fail
    go_ret
    refine ⟨by rw [HF.out]; rfl, ?_⟩
    rw [HWE.out]
    exact HB1.out
  have g5 : decide (20 ≤ k) = false := by simpa using h20
  have HRK : Hid (res = (decide (0 ≤ n ∧ n ≤ (hasD k).most) && textB k text (hasD k).name && decide ((hasD k).low ≤ a ∧ a ≤ (hasD k).types) && (decide ((hasD k).kids < 0 ∨ b = 0) && decide ((d : Int) = kidsOf (hasD k).kids b)) && q && ts.all (writtenB 16) && ks.all (nodeB m))) := hid (by rw [HRES.out, decide_eq_true (by omega : 0 ≤ k ∧ k < 20), Bool.true_and])
  have HKI := hid (fun w1 => (kinds_any w1).mono fun e w' (h : _ ∧ _) => (⟨h.1.imp fun v hv => ⟨hv.1, hv.2 k (by omega) (by omega)⟩, h.2⟩ : (∃ v, e = .returned v ∧ ∀ u, (Instr.index 106 v (.int .i64 k)).run Tryz.prog u = .ok (hasV (hasD k)) u) ∧ Below w1.heap.size w1 w'))
  have HN64 := hid hn64
  clear h0 h20 HRES hn64
  go_enter Tryz.func32, Tryz.ntmps32
  go_upto_region 3 with (fail)
  have hW := HWE.out
  rw [hW]
  clear hW hm0 hm1 g4 g5
  go_cut [5] from 10 (fun v5 wc => ∃ b5, v5 = .pointer (some ⟨b5, 0, none⟩) ∧ W.heap.size ≤ b5 ∧ wc.heap[b5]? = some (.cells #[.bool (hasD k).name, .int .i64 ((hasD k).low : Int), .int .i64 ((hasD k).types : Int), .int .i64 (hasD k).kids, .int .i64 (hasD k).most] 105 (0, 0)) ∧ Below W.heap.size W wc)
  case first =>
    obtain ⟨g0, _⟩ := t_row8 HBX.out
    have G0 := hid g0
    clear g0
    have HB0 : Hid (Below W.heap.size W W.drew) := hid (below_drawn W 1)
    refine wp_region_held_drew (S := fun w' => Below W.heap.size W w') (by kernel_rfl) HB0.out (fun _ => ?_)
    try simp only [Act.put, List.getElem_toArray, List.getElem_cons_zero, List.getElem_cons_succ, List.setIfInBounds_toArray, List.set_cons_zero, List.set_cons_succ]
    refine tk 1 (.pointer (some ⟨w.heap.size, 0, none⟩)) HB0.out ?_
    refine tkf 2 (.int .i64 k) (kp1 G0.out) HB0.out ?_
    refine wpAnyH_ready (rs := [0, 4]) (by kernel_rfl) (by simp) ?_
    refine AllReadyH.cons rfl (fun K hK => ?_) (AllReadyH.cons rfl (fun K hK => ?_) AllReadyH.nil)
    · go_simp
      refine (HKI.out _).mono ?_
      rintro e w2 ⟨⟨v, rfl, hix⟩, hb⟩
      have HB2 := hid (HB0.out.trans (hb.mono HB0.out.size))
      have HIX := hid hix
      clear hb hix
      refine hK.out _ _ HB2.out (fun _ => ?_)
      clear hK K
      try simp only [Act.put, List.getElem_toArray, List.getElem_cons_zero, List.getElem_cons_succ, List.setIfInBounds_toArray, List.set_cons_zero, List.set_cons_succ]
      refine wpAnyH_take (i := 3) (v := (hasV (hasD k))) rfl (by kernel_rfl) (by kernel_rfl) (by kernel_rfl) (fun _ _ _ h => h) (Or.inl ⟨by kernel_rfl, by intro w' hSw; have hix := HIX.out; go_simp⟩) HB2.out ?_
      try simp only [Act.put, List.getElem_toArray, List.getElem_cons_zero, List.getElem_cons_succ, List.setIfInBounds_toArray, List.set_cons_zero, List.set_cons_succ]
      refine wpAnyH_ready (rs := [4]) (by kernel_rfl) (by simp) ?_
      refine AllReadyH.cons rfl (fun K hK => ?_) (AllReadyH.nil)
      go_simp
      have HB3 := hid (HB2.out.alloc HB2.out.size (.cells #[.bool false, .int .i64 0, .int .i64 0, .int .i64 0, .int .i64 0] 105))
      have hzz := heap_alloc_new w2 (.cells #[.bool false, .int .i64 0, .int .i64 0, .int .i64 0, .int .i64 0] 105)
      refine hK.out _ _ HB3.out (fun _ => ?_)
      clear hK K
      try simp only [Act.put, List.getElem_toArray, List.getElem_cons_zero, List.getElem_cons_succ, List.setIfInBounds_toArray, List.set_cons_zero, List.set_cons_succ]
      refine wpAnyH_ready (rs := [5]) (by kernel_rfl) (by simp) ?_
      refine AllReadyH.cons rfl (fun K hK => ?_) AllReadyH.nil
      refine step_store_row rfl _ _ _ rfl w2.heap.size #[.bool (hasD k).name, .int .i64 ((hasD k).low : Int), .int .i64 ((hasD k).types : Int), .int .i64 (hasD k).kids, .int .i64 (hasD k).most] rfl rfl _ _ hzz (by kernel_rfl) rfl (by simp [Value.oneCell']) ?_
      have hzz2 := setRow_heap _ w2.heap.size _ #[.bool (hasD k).name, .int .i64 ((hasD k).low : Int), .int .i64 ((hasD k).types : Int), .int .i64 (hasD k).kids, .int .i64 (hasD k).most] _ _ hzz
      have HB9 := hid (below_setRow HB3.out HB2.out.size #[.bool (hasD k).name, .int .i64 ((hasD k).low : Int), .int .i64 ((hasD k).types : Int), .int .i64 (hasD k).kids, .int .i64 (hasD k).most])
      have HZ2 := hid hzz2
      clear hzz hzz2
      refine hK.out _ _ HB9.out (fun _ => ?_)
      clear hK K
      try simp only [Act.put, List.getElem_toArray, List.getElem_cons_zero, List.getElem_cons_succ, List.setIfInBounds_toArray, List.set_cons_zero, List.set_cons_succ]
      refine wpAnyH_done (by kernel_rfl) ?_ _
      go_wp2_with fail
      go_meet
      case rel => exact ⟨_, rfl, HB2.out.size, HZ2.out, HB9.out⟩
    · go_simp
      have HB3 := hid (HB0.out.alloc HB0.out.size (.cells #[.bool false, .int .i64 0, .int .i64 0, .int .i64 0, .int .i64 0] 105))
      refine hK.out _ _ HB3.out (fun _ => ?_)
      clear hK K
      try simp only [Act.put, List.getElem_toArray, List.getElem_cons_zero, List.getElem_cons_succ, List.setIfInBounds_toArray, List.set_cons_zero, List.set_cons_succ]
      refine wpAnyH_ready (rs := [0]) (by kernel_rfl) (by simp) ?_
      refine AllReadyH.cons rfl (fun K hK => ?_) AllReadyH.nil
      go_simp
      refine (HKI.out _).mono ?_
      rintro e w2 ⟨⟨v, rfl, hix⟩, hb⟩
      have hzz := (hb.block _ (block_lt (heap_alloc_new W.drew (.cells #[.bool false, .int .i64 0, .int .i64 0, .int .i64 0, .int .i64 0] 105)))).trans (heap_alloc_new W.drew (.cells #[.bool false, .int .i64 0, .int .i64 0, .int .i64 0, .int .i64 0] 105))
      have HB4 := hid (HB3.out.trans (hb.mono HB3.out.size))
      have HIX := hid hix
      clear hb hix
      refine hK.out _ _ HB4.out (fun _ => ?_)
      clear hK K
      try simp only [Act.put, List.getElem_toArray, List.getElem_cons_zero, List.getElem_cons_succ, List.setIfInBounds_toArray, List.set_cons_zero, List.set_cons_succ]
      refine wpAnyH_take (i := 3) (v := (hasV (hasD k))) rfl (by kernel_rfl) (by kernel_rfl) (by kernel_rfl) (fun _ _ _ h => h) (Or.inl ⟨by kernel_rfl, by intro w' hSw; have hix := HIX.out; go_simp⟩) HB4.out ?_
      try simp only [Act.put, List.getElem_toArray, List.getElem_cons_zero, List.getElem_cons_succ, List.setIfInBounds_toArray, List.set_cons_zero, List.set_cons_succ]
      refine wpAnyH_ready (rs := [5]) (by kernel_rfl) (by simp) ?_
      refine AllReadyH.cons rfl (fun K hK => ?_) AllReadyH.nil
      refine step_store_row rfl _ _ _ rfl W.heap.size #[.bool (hasD k).name, .int .i64 ((hasD k).low : Int), .int .i64 ((hasD k).types : Int), .int .i64 (hasD k).kids, .int .i64 (hasD k).most] rfl rfl _ _ hzz (by kernel_rfl) rfl (by simp [Value.oneCell']) ?_
      have hzz2 := setRow_heap _ W.heap.size _ #[.bool (hasD k).name, .int .i64 ((hasD k).low : Int), .int .i64 ((hasD k).types : Int), .int .i64 (hasD k).kids, .int .i64 (hasD k).most] _ _ hzz
      have HB9 := hid (below_setRow HB4.out (Nat.le_refl _) #[.bool (hasD k).name, .int .i64 ((hasD k).low : Int), .int .i64 ((hasD k).types : Int), .int .i64 (hasD k).kids, .int .i64 (hasD k).most])
      have HZ2 := hid hzz2
      clear hzz hzz2
      refine hK.out _ _ HB9.out (fun _ => ?_)
      clear hK K
      try simp only [Act.put, List.getElem_toArray, List.getElem_cons_zero, List.getElem_cons_succ, List.setIfInBounds_toArray, List.set_cons_zero, List.set_cons_succ]
      refine wpAnyH_done (by kernel_rfl) ?_ _
      go_wp2_with fail
      go_meet
      case rel => exact ⟨_, rfl, (Nat.le_refl _), HZ2.out, HB9.out⟩
  case rest =>
    obtain ⟨b5, rfl, hb5, hrow, hbw⟩ := hcut
    generalize (hasD k).name = hn at *
    generalize (hasD k).low = lo at *
    generalize (hasD k).types = hi at *
    generalize (hasD k).kids = kd at *
    generalize (hasD k).most = mo at *
    have HROW := hid hrow
    have HBW := hid hbw
    clear HKI hrow hbw
    go_upto_block 0 with (fail)
    obtain ⟨kv, hkv⟩ : ∃ kv, kidsOf kd b = kv := ⟨_, rfl⟩
    rw [hkv] at HRK
    have HKV := hid hkv
    clear hkv
    go_cut [5] from 10 (fun v5 wc => v5 = .pointer (some ⟨b5, 0, none⟩) ∧ (kd < 0 ∨ b = 0) ∧ wc.heap[b5]? = some (.cells #[.bool hn, .int .i64 (lo : Int), .int .i64 (hi : Int), .int .i64 kv, .int .i64 mo] 105 (0, 0)) ∧ Below W.heap.size W wc)
    case first =>
      obtain ⟨e0, e1, e2, e3, e4⟩ := t_row5 HROW.out
      have f3 := block_free HROW.out 3
      obtain ⟨p0, p1, p2, p3, p4, p5, p6, p7⟩ := t_row8 ((HBW.out.block _ (block_lt HBX.out)).trans HBX.out)
      clear e0 e1 e2 e4 p0 p1 p2 p3 p4 p5 p7
      by_cases hk : kd < 0
      · have g1 : decide (kd < 0) = true := by simpa using hk
        have HV : Hid (kv = (b : Int)) := hid (by rw [← HKV.out]; unfold kidsOf; rw [if_pos hk])
        have HK0 := hid hk
        clear hk
        go_wp2_with fail
        go_meet
        case rel =>
          refine ⟨rfl, .inl HK0.out, ?_, HBW.out.trans ((turn_set wc b5 3 (.int .i64 (b : Int))).below HBW.out.size (fun j hj e => by omega))⟩
          rw [HV.out]
          exact heap_setCell_same wc b5 3 _ _ _ HROW.out
      · have g1 : decide (kd < 0) = false := by simpa using hk
        have HV : Hid (kv = kd) := hid (by rw [← HKV.out]; unfold kidsOf; rw [if_neg hk])
        have HK0 := hid hk
        clear hk
        by_cases hb0 : 0 < b
        · have g2 : decide ((0 : Int) < (b : Int)) = true := by simp; omega
          have HF : Hid (res = false) := hid (by rw [HRK.out, decide_eq_false (by have := HK0.out; omega : ¬ (kd < 0 ∨ b = 0))]; simp)
          go_wp2_with fail
          go_ret
          refine ⟨by rw [HF.out]; rfl, HB1.out.trans (HBW.out.mono HB1.out.size)⟩
        · have g2 : decide ((0 : Int) < (b : Int)) = false := by simp; omega
          have HB00 : Hid (b = 0) := hid (by omega)
          go_wp2_with fail
          go_meet
          case rel =>
            refine ⟨rfl, .inr HB00.out, ?_, HBW.out⟩
            rw [HV.out]
            exact HROW.out
    case rest =>
      rename_i wc0
      clear HROW HBW HKV
      obtain ⟨rfl, hkb, hrow, hbw⟩ := hcut
      have HRR : Hid (res = (decide (0 ≤ n ∧ n ≤ mo) && textB k text hn && decide (lo ≤ a ∧ a ≤ hi) && decide ((d : Int) = kv) && q && ts.all (writtenB 16) && ks.all (nodeB m))) := hid (by rw [HRK.out, decide_eq_true hkb, Bool.true_and])
      have HTW := hid (HTX.out wc hbw hn lo hi kv mo)
      have HROW := hid hrow
      have HBW := hid hbw
      obtain ⟨e0, e1, e2, e3, e4⟩ := t_row5 hrow
      obtain ⟨p0, p1, p2, p3, p4, p5, p6, p7⟩ := t_row8 ((hbw.block _ (block_lt HBX.out)).trans HBX.out)
      clear HTX HRK hkb hrow hbw
      generalize textB k text hn = tb at *
      by_cases n0 : n < 0
      · have g1 : decide (n < 0) = true := by simpa using n0
        have HF : Hid (res = false) := hid (by rw [HRR.out, decide_eq_false (by omega : ¬ (0 ≤ n ∧ n ≤ mo))]; simp)
        clear n0
        go_wp2_with fail
        go_ret
        refine ⟨by rw [HF.out]; rfl, HB1.out.trans (HBW.out.mono HB1.out.size)⟩
      have g1 : decide (n < 0) = false := by simpa using n0
      by_cases n1 : mo < n
      · have g2 : decide (mo < n) = true := by simpa using n1
        have HF : Hid (res = false) := hid (by rw [HRR.out, decide_eq_false (by omega : ¬ (0 ≤ n ∧ n ≤ mo))]; simp)
        clear n0 n1
        go_wp2_with fail
        go_ret
        refine ⟨by rw [HF.out]; rfl, HB1.out.trans (HBW.out.mono HB1.out.size)⟩
      have g2 : decide (mo < n) = false := by simpa using n1
      have HRS : Hid (res = (tb && decide (lo ≤ a ∧ a ≤ hi) && decide ((d : Int) = kv) && q && ts.all (writtenB 16) && ks.all (nodeB m))) := hid (by rw [HRR.out, decide_eq_true (by omega : 0 ≤ n ∧ n ≤ mo), Bool.true_and])
      clear HRR n0 n1
      go_wp2_with fail
      refine HTW.out.mono ?_
      rintro e w3 ⟨rfl, hb3⟩
      have hbw3 := HBW.out.trans (hb3.mono HBW.out.size)
      have hrow3 := (hb3.block _ (block_lt HROW.out)).trans HROW.out
      have HB3 := hid hbw3
      have HROW3 := hid hrow3
      have HNW := hid (HNM.out w3 hbw3)
      clear e0 e1 e2 e3 e4 p0 p1 p2 p3 p4 p5 p6 p7 hb3
      obtain ⟨e0, e1, e2, e3, e4⟩ := t_row5 hrow3
      obtain ⟨p0, p1, p2, p3, p4, p5, p6, p7⟩ := t_row8 ((hbw3.block _ (block_lt HBX.out)).trans HBX.out)
      clear hbw3 hrow3 HNM HTW HBW HROW
      cases tb with
      | false =>
        have HF : Hid (res = false) := hid (by rw [HRS.out]; simp)
        go_wp2_with fail
        go_ret
        refine ⟨by rw [HF.out]; rfl, HB1.out.trans (HB3.out.mono HB1.out.size)⟩
      | true =>
        go_wp2_with fail
        refine HNW.out.mono ?_
        rintro e w4 ⟨rfl, hb4⟩
        have hbw4 := HB3.out.trans (hb4.mono HB3.out.size)
        have hrow4 := (hb4.block _ (block_lt HROW3.out)).trans HROW3.out
        have HB4 := hid hbw4
        clear e0 e1 e2 e3 e4 p0 p1 p2 p3 p4 p5 p6 p7 hb4
        obtain ⟨e0, e1, e2, e3, e4⟩ := t_row5 hrow4
        obtain ⟨p0, p1, p2, p3, p4, p5, p6, p7⟩ := t_row8 ((hbw4.block _ (block_lt HBX.out)).trans HBX.out)
        clear hbw4 hrow4 HNW HB3 HROW3
        cases q with
        | false =>
          have HF : Hid (res = false) := hid (by rw [HRS.out]; simp)
          go_wp2_with fail
          go_ret
          refine ⟨by rw [HF.out]; rfl, HB1.out.trans (HB4.out.mono HB1.out.size)⟩
        | true =>
          by_cases h1 : a < lo
          · have g3 : decide ((a : Int) < (lo : Int)) = true := by simp; omega
            have HF : Hid (res = false) := hid (by rw [HRS.out, decide_eq_false (by omega : ¬ (lo ≤ a ∧ a ≤ hi))]; simp)
            go_wp2_with fail
            go_ret
            refine ⟨by rw [HF.out]; rfl, HB1.out.trans (HB4.out.mono HB1.out.size)⟩
          have g3 : decide ((a : Int) < (lo : Int)) = false := by simp; omega
          by_cases h2 : hi < a
          · have g4 : decide ((hi : Int) < (a : Int)) = true := by simp; omega
            have HF : Hid (res = false) := hid (by rw [HRS.out, decide_eq_false (by omega : ¬ (lo ≤ a ∧ a ≤ hi))]; simp)
            go_wp2_with fail
            go_ret
            refine ⟨by rw [HF.out]; rfl, HB1.out.trans (HB4.out.mono HB1.out.size)⟩
          have g4 : decide ((hi : Int) < (a : Int)) = false := by simp; omega
          by_cases h3 : (d : Int) = kv
          · have HRT : Hid (res = (ts.all (writtenB 16) && ks.all (nodeB m))) := hid (by rw [HRS.out, decide_eq_true (by omega : lo ≤ a ∧ a ≤ hi), decide_eq_true h3]; simp)
            have g5 : ((d : Int) != kv) = false := by rw [bne_eq_false_iff_eq]; exact h3
            clear h3 HRS
            go_wp2_with fail
            clear e0 e1 e2 e3 e4 p0 p1 p2 p3 p4 p5 p6 p7 g1 g2 g3 g4 g5 h1 h2
            go_loopw [88] (fun v88 wr => ∃ i : Nat, v88 = .int .i64 i ∧ i ≤ a ∧ (ts.take i).all (writtenB 16) = true ∧ Below W.heap.size W wr) (fun v88 _ => a - (intOf v88).toNat)
            case atStart => exact ⟨0, rfl, by omega, rfl, HB4.out⟩
            case round =>
              obtain ⟨i, rfl, hi_, hinv, hbr⟩ := hrel
              have HI := hid hinv
              have HB := hid hbr
              clear hinv
              by_cases hlt : i < a
              · have hil : i < ts.length := by rw [HA.out]; exact hlt
                obtain ⟨b2, o2, kk, ss, A5, n5, c5, A6, n6, c6, rfl, hr1, e0, e1, e2, e3⟩ := elem_at (Sl.more (Sl.below HTT.out.1 hbr) hbr.size) ((HTT.out.2.keep hbr).more hbr.size) hil HA.out.symm
                obtain ⟨wA, hwA⟩ : ∃ wA, wr.alloc (.cells #[.int .i64 kk, .string ss, .slice A5 n5 c5, .slice A6 n6 c6] 32) = wA := ⟨_, rfl⟩
                have hbA : Below wr.heap.size wr wA := by rw [← hwA]; exact (Below.refl _ _).alloc (Nat.le_refl _) _
                have HC := hid (HWR.out wA _ ts[i] (hr1.far (Nat.le_refl _) hbA) (HOT.out _ (List.getElem_mem hil)) ((HX.out.below hbr).below hbA))
                have HBA := hid hbA
                have HWA := hid hwA
                have hst := t_take hil
                rw [← hwA] at HC
                clear hbr hr1 hbA hwA
                cases hq : writtenB 16 ts[i] with
                | false =>
                  have hall : ts.all (writtenB 16) = false := by
                    cases h : ts.all (writtenB 16) with
                    | false => rfl
                    | true => rw [List.all_eq_true] at h; rw [h _ (List.getElem_mem hil)] at hq; cases hq
                  have HF : Hid (res = false) := hid (by rw [HRT.out, hall]; simp)
                  rw [hq] at HC
                  clear hq hst hall
                  generalize ts[i] = X at *
                  go_wp2_with fail
                  refine HC.out.mono ?_
                  rintro e w5 ⟨rfl, hb⟩
                  rw [HWA.out] at hb
                  have HB5 := hid (HB.out.trans ((HBA.out.trans (hb.mono HBA.out.size)).mono HB.out.size))
                  clear hb e0 e1 e2 e3
                  go_wp2_with fail
                  go_ret
                  refine ⟨by rw [HF.out]; rfl, HB1.out.trans (HB5.out.mono HB1.out.size)⟩
                | true =>
                  have HST : Hid ((ts.take (i + 1)).all (writtenB 16) = true) := hid (by rw [hst, List.all_append, HI.out]; simp [hq])
                  rw [hq] at HC
                  clear hq hst
                  generalize ts[i] = X at *
                  go_wp2_with fail
                  refine HC.out.mono ?_
                  rintro e w5 ⟨rfl, hb⟩
                  rw [HWA.out] at hb
                  have HB5 := hid (HB.out.trans ((HBA.out.trans (hb.mono HBA.out.size)).mono HB.out.size))
                  clear hb e0 e1 e2 e3
                  go_wp2_with fail
                  go_roundw
                  case rel => exact ⟨i + 1, rfl, by omega, HST.out, HB5.out⟩
                  case measure => simp [intOf]; omega
              · obtain rfl : i = a := by omega
                have HRU : Hid (res = ks.all (nodeB m)) := hid (by
                  have h := HI.out
                  rw [List.take_of_length_le (by rw [HA.out]; omega)] at h
                  rw [HRT.out, h, Bool.true_and])
                obtain ⟨p0, p1, p2, p3, p4, p5, p6, p7⟩ := t_row8 ((hbr.block _ (block_lt HBX.out)).trans HBX.out)
                clear hlt hbr HI HRT
                go_wp2_with fail
                clear p0 p1 p2 p3 p4 p5 p6 p7
                go_loopw [99] (fun v99 wr => ∃ i : Nat, v99 = .int .i64 i ∧ i ≤ d ∧ (ks.take i).all (nodeB m) = true ∧ Below W.heap.size W wr) (fun v99 _ => d - (intOf v99).toNat)
                case atStart => exact ⟨0, rfl, by omega, rfl, HB.out⟩
                case round =>
                  obtain ⟨j, rfl, hj_, hinv2, hbr2⟩ := hrel
                  have HI2 := hid hinv2
                  have HB2 := hid hbr2
                  clear hinv2
                  by_cases hlt : j < d
                  · have hil : j < ks.length := by rw [HD.out]; exact hlt
                    obtain ⟨b2, o2, kk, ss, y2, y3, y4, A5, n5, c5, A6, n6, c6, A7, n7, c7, rfl, hr1, e0, e1, e2, e3, e4, e5, e6, e7⟩ := node_at (Sl.more (Sl.below HKK.out.1 hbr2) hbr2.size) ((HKK.out.2.keep hbr2).more hbr2.size) hil HD.out.symm
                    obtain ⟨wA, hwA⟩ : ∃ wA, wr.alloc (.cells #[.int .i64 kk, .string ss, .int .i64 y2, .int .i64 y3, .int .i64 y4, .slice A5 n5 c5, .slice A6 n6 c6, .slice A7 n7 c7] 26) = wA := ⟨_, rfl⟩
                    have hbA : Below wr.heap.size wr wA := by rw [← hwA]; exact (Below.refl _ _).alloc (Nat.le_refl _) _
                    have HC := hid (HIH.out wA _ ks[j] (hr1.far (Nat.le_refl _) hbA) (HOK.out _ (List.getElem_mem hil)) ((HX.out.below hbr2).below hbA))
                    have HBA := hid hbA
                    have HWA := hid hwA
                    have hst := t_take hil
                    rw [← hwA] at HC
                    clear hbr2 hr1 hbA hwA
                    cases hq : nodeB m ks[j] with
                    | false =>
                      have hall : ks.all (nodeB m) = false := by
                        cases h : ks.all (nodeB m) with
                        | false => rfl
                        | true => rw [List.all_eq_true] at h; rw [h _ (List.getElem_mem hil)] at hq; cases hq
                      have HF : Hid (res = false) := hid (by rw [HRU.out, hall])
                      rw [hq] at HC
                      clear hq hst hall
                      generalize ks[j] = X at *
                      go_wp2_with fail
                      refine HC.out.mono ?_
                      rintro e w5 ⟨rfl, hb⟩
                      rw [HWA.out] at hb
                      have HB5 := hid (HB2.out.trans ((HBA.out.trans (hb.mono HBA.out.size)).mono HB2.out.size))
                      clear hb e0 e1 e2 e3 e4 e5 e6 e7
                      go_wp2_with fail
                      go_ret
                      refine ⟨by rw [HF.out]; rfl, HB1.out.trans (HB5.out.mono HB1.out.size)⟩
                    | true =>
                      have HST : Hid ((ks.take (j + 1)).all (nodeB m) = true) := hid (by rw [hst, List.all_append, HI2.out]; simp [hq])
                      rw [hq] at HC
                      clear hq hst
                      generalize ks[j] = X at *
                      go_wp2_with fail
                      refine HC.out.mono ?_
                      rintro e w5 ⟨rfl, hb⟩
                      rw [HWA.out] at hb
                      have HB5 := hid (HB2.out.trans ((HBA.out.trans (hb.mono HBA.out.size)).mono HB2.out.size))
                      clear hb e0 e1 e2 e3 e4 e5 e6 e7
                      go_wp2_with fail
                      go_roundw
                      case rel => exact ⟨j + 1, rfl, by omega, HST.out, HB5.out⟩
                      case measure => simp [intOf]; omega
                  · obtain rfl : j = d := by omega
                    have HF : Hid (res = true) := hid (by
                      have h := HI2.out
                      rw [List.take_of_length_le (by rw [HD.out]; omega)] at h
                      rw [HRU.out, h])
                    clear hbr2 hlt
                    go_wp2_with fail
                    go_ret
                    refine ⟨by rw [HF.out]; rfl, HB1.out.trans (HB2.out.mono HB1.out.size)⟩
          · have HF : Hid (res = false) := hid (by rw [HRS.out, decide_eq_false h3]; simp)
            have g5 : ((d : Int) != kv) = true := by rw [bne_iff_ne]; exact h3
            clear h3
            go_wp2_with fail
            go_ret
            refine ⟨by rw [HF.out]; rfl, HB1.out.trans (HB4.out.mono HB1.out.size)⟩
theorem node_all : ∀ m : Nat, m ≤ 41 → NdC m
  | 0, _ => node_zero
  | m + 1, h => node_succ m (by omega) (node_all m (by omega))
end Go.Proofs.YtbpedjkebemhnaaGreatDoor
end
