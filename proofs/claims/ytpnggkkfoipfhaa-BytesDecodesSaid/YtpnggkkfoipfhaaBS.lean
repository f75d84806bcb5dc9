/- A writer of bytes: a coercion, and Encode. -/
import Derived.Test.YtpnggkkfoipfhaaBR
set_option linter.unusedVariables false
namespace Go.Proofs.Ytpnggkkfoipfhaa
open Go.RowKit

set_option maxRecDepth 100000 in
set_option maxHeartbeats 4000000 in
theorem co_step (t : List Int) (n : List (Bt × Int)) (m : List Bt) (f u : List CoD) (Hf : ∀ x ∈ f, CoC x) (Hu : ∀ x ∈ u, CoC x) : CoC (.mk t n m f u) := by
  intro w base F bw b x hW hr hok hlen
  have hcl : (coE (.mk t n m f u)).length = (listE putL t).length + ((listE needE n).length + ((listE textE m).length + ((listE coE f).length + (listE coE u).length))) := by
    rw [coE_eq]; simp only [List.length_append]
  have hce := coE_eq t n m f u
  rw [coOk] at hok
  obtain ⟨ok1, ok2, ok3, ok4, ok5⟩ := hok
  have hmf : ∀ (fn : Fn) (first cap : Array Value) (w : World), (Instr.makeFunc fn first cap).run Try.prog w = .ok (.func fn first cap) w := fun _ _ _ _ => rfl
  have hF : ∀ k, F k → base ≤ k ∧ k < w.heap.size := by obtain ⟨_, _, _, _, _, h⟩ := hW; exact h
  have hbase := hW.base
  cases hr with
  | mk h1 h2 h3 h4 h4c h5 h5c =>
    have H1 := hid h1
    have H2 := hid h2
    have H3 := hid h3
    have H4 := hid h4
    have H5 := hid h5
    have HC4 := hid h4c
    have HC5 := hid h5c
    obtain ⟨A1, n1, c1, rfl, _⟩ := h1
    obtain ⟨A2, n2, c2, rfl, _⟩ := h2
    obtain ⟨A3, n3, c3, rfl, _⟩ := h3
    obtain ⟨A4, n4, c4, rfl, _⟩ := h4
    obtain ⟨A5, n5, c5, rfl, _⟩ := h5
    clear h4c h5c
    have hs1 : (w.alloc (.cells #[.pointer (some ⟨bw, 0, none⟩)] 48)).heap.size = w.heap.size + 1 := by simp
    have hb1 : Below w.heap.size w (w.alloc (.cells #[.pointer (some ⟨bw, 0, none⟩)] 48)) := (Below.refl _ _).alloc (Nat.le_refl _) _
    have hb2 := hb1.alloc (by simp) (.cells #[.slice A1 n1 c1, .slice A2 n2 c2, .slice A3 n3 c3, .slice A4 n4 c4, .slice A5 n5 c5] 42)
    have hx1 := heap_alloc_new w (.cells #[.pointer (some ⟨bw, 0, none⟩)] 48)
    have hx2 := heap_alloc_new (w.alloc (.cells #[.pointer (some ⟨bw, 0, none⟩)] 48)) (.cells #[.slice A1 n1 c1, .slice A2 n2 c2, .slice A3 n3 c3, .slice A4 n4 c4, .slice A5 n5 c5] 42)
    rw [hs1] at hx2
    have hy1 := (((Below.refl _ _).alloc (Nat.le_refl _) (.cells #[.slice A1 n1 c1, .slice A2 n2 c2, .slice A3 n3 c3, .slice A4 n4 c4, .slice A5 n5 c5] 42) : Below (w.alloc (.cells #[.pointer (some ⟨bw, 0, none⟩)] 48)).heap.size _ _).block w.heap.size (block_lt hx1)).trans hx1
    have HY := hid hy1
    have HZ := hid hx2
    have HB2 := hid hb2
    have HTO0 := hid (WrTo.refl (hW.below hb2))
    have HW1 := hid (hW.below hb2)
    clear hx1 hx2 hy1 hW hb1 hb2
    have hbW := HB2.out.mono hbase
    obtain ⟨W1, hW1⟩ : ∃ W1, W1 = (w.alloc (.cells #[.pointer (some ⟨bw, 0, none⟩)] 48)).alloc (.cells #[.slice A1 n1 c1, .slice A2 n2 c2, .slice A3 n3 c3, .slice A4 n4 c4, .slice A5 n5 c5] 42) := ⟨_, rfl⟩
    rw [← hW1] at HY HZ HB2 HTO0 HW1 hbW
    have HL1 := hid (list_int_any W1 base F bw b (.slice A1 n1 c1) t HW1.out (H1.out.below hbW) ok1.1 ok1.2 (by omega))
    have HBW := hid hbW
    have HF := hid hF
    have HWE := hid hW1
    rw [hW1] at HL1
    clear hW1 hbW hF
    go_enter Try.func23, Try.ntmps23
    go_wp2_with fail
    refine HL1.out.mono ?_
    rintro e w2 ⟨rfl, hto⟩
    rw [← HWE.out] at hto
    have HTO1 := hid hto
    clear hto HL1 HTO0
    obtain ⟨F2, hw2, t2, n2_⟩ := HTO1.out
    have hp2 := block_turn HY.out t2 (fun h => by have := (HF.out _ h).2; omega)
    have hq2 := block_turn HZ.out t2 (fun h => by have := (HF.out _ h).2; omega)
    have k2 : w2.cell? ⟨w.heap.size, 0, none⟩ = some (.pointer (some ⟨bw, 0, none⟩)) := (cell_of_row _ _ _ _ _ (0, 0) hp2).trans rfl
    have j2 : w2.cell? ⟨w.heap.size + 1, 1, none⟩ = some (.slice A2 n2 c2) := (cell_of_row _ _ _ _ _ (0, 0) hq2).trans rfl
    have hbel2 := HBW.out.trans (WrTo.bel HW1.out HTO1.out)
    have hnF : ¬ F2 w.heap.size := fun h => (n2_ _ h).elim (fun h => by have := (HF.out _ h).2; omega) (fun h => by rw [HWE.out] at h; simp at h; omega)
    have HL2 := hid (list_need_any w2 base F2 bw (b ++ listE putL t) (.slice A2 n2 c2) n hw2 w.heap.size k2 hnF (H2.out.below hbel2) ok2.1 ok2.2 (by simp only [List.length_append]; omega))
    clear hw2 hp2 hq2
    go_wp2_with fail
    refine HL2.out.mono ?_
    rintro e w3 ⟨rfl, hto⟩
    have HTO2 := hid (WrTo.more t2 n2_ hto)
    clear hto HL2 hbel2
    obtain ⟨F3, hw3, t3, n3_⟩ := HTO2.out
    have hp3 := block_turn HY.out t3 (fun h => by have := (HF.out _ h).2; omega)
    have hq3 := block_turn HZ.out t3 (fun h => by have := (HF.out _ h).2; omega)
    have k3 : w3.cell? ⟨w.heap.size, 0, none⟩ = some (.pointer (some ⟨bw, 0, none⟩)) := (cell_of_row _ _ _ _ _ (0, 0) hp3).trans rfl
    have j3 : w3.cell? ⟨w.heap.size + 1, 2, none⟩ = some (.slice A3 n3 c3) := (cell_of_row _ _ _ _ _ (0, 0) hq3).trans rfl
    have hbel3 := HBW.out.trans (WrTo.bel HW1.out HTO2.out)
    have HL3 := hid (texts_any w3 base F3 bw ((b ++ listE putL t) ++ listE needE n) (.slice A3 n3 c3) m hw3 (Sl.below H3.out hbel3) ok3 (by simp only [List.length_append]; omega))
    clear hw3 hp3 hq3
    go_wp2_with fail
    refine HL3.out.mono ?_
    rintro e w4 ⟨rfl, hto⟩
    have HTO3 := hid (WrTo.more t3 n3_ hto)
    clear hto HL3 hbel3
    obtain ⟨F4, hw4, t4, n4_⟩ := HTO3.out
    have hp4 := block_turn HY.out t4 (fun h => by have := (HF.out _ h).2; omega)
    have hq4 := block_turn HZ.out t4 (fun h => by have := (HF.out _ h).2; omega)
    have k4 : w4.cell? ⟨w.heap.size, 0, none⟩ = some (.pointer (some ⟨bw, 0, none⟩)) := (cell_of_row _ _ _ _ _ (0, 0) hp4).trans rfl
    have j4 : w4.cell? ⟨w.heap.size + 1, 3, none⟩ = some (.slice A4 n4 c4) := (cell_of_row _ _ _ _ _ (0, 0) hq4).trans rfl
    have hbel4 := HBW.out.trans (WrTo.bel HW1.out HTO3.out)
    have HL4 := hid (list_co_any w4 base F4 bw (((b ++ listE putL t) ++ listE needE n) ++ listE textE m) (.slice A4 n4 c4) f hw4 _ (HC4.out.keep hbel4) Hf (H4.out.below hbel4) ok4.1 (cosOk_mem.1 ok4.2) (by simp only [List.length_append]; omega))
    clear hw4 hp4 hq4
    go_wp2_with fail
    refine HL4.out.mono ?_
    rintro e w5 ⟨rfl, hto⟩
    have HTO4 := hid (WrTo.more t4 n4_ hto)
    clear hto HL4 hbel4
    obtain ⟨F5, hw5, t5, n5_⟩ := HTO4.out
    have hp5 := block_turn HY.out t5 (fun h => by have := (HF.out _ h).2; omega)
    have hq5 := block_turn HZ.out t5 (fun h => by have := (HF.out _ h).2; omega)
    have k5 : w5.cell? ⟨w.heap.size, 0, none⟩ = some (.pointer (some ⟨bw, 0, none⟩)) := (cell_of_row _ _ _ _ _ (0, 0) hp5).trans rfl
    have j5 : w5.cell? ⟨w.heap.size + 1, 4, none⟩ = some (.slice A5 n5 c5) := (cell_of_row _ _ _ _ _ (0, 0) hq5).trans rfl
    have hbel5 := HBW.out.trans (WrTo.bel HW1.out HTO4.out)
    have HL5 := hid (list_co_any w5 base F5 bw ((((b ++ listE putL t) ++ listE needE n) ++ listE textE m) ++ listE coE f) (.slice A5 n5 c5) u hw5 _ (HC5.out.keep hbel5) Hu (H5.out.below hbel5) ok5.1 (cosOk_mem.1 ok5.2) (by simp only [List.length_append]; omega))
    clear hw5 hp5 hq5
    go_wp2_with fail
    refine HL5.out.mono ?_
    rintro e w6 ⟨rfl, hto⟩
    have HTO5 := hid (WrTo.more t5 n5_ hto)
    clear hto HL5 hbel5
    go_wp2_with fail
    go_end0
    refine ⟨rfl, ?_⟩
    have hfin := WrTo.first HB2.out HTO5.out
    rw [coE_eq]
    simp only [List.append_assoc] at hfin
    exact hfin
theorem co_all : ∀ (k : Nat) (c : CoD), SizeOf.sizeOf c < k → CoC c
  | 0, c, h => absurd h (by omega)
  | k + 1, .mk t n m f u, h => by
    simp only [CoD.mk.sizeOf_spec] at h
    exact co_step t n m f u (fun x hx => co_all k x (by have := List.sizeOf_lt_of_mem hx; omega)) (fun x hx => co_all k x (by have := List.sizeOf_lt_of_mem hx; omega))
theorem co_any (c : CoD) : CoC c := co_all _ c (Nat.lt_succ_self _)
end Go.Proofs.Ytpnggkkfoipfhaa
