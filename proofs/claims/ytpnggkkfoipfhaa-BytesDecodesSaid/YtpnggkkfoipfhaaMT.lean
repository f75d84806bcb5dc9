/- Opening arguments: what a slice of texts that came in reads as. -/
import Derived.Test.YtpnggkkfoipfhaaMS
import Derived.ProofKit
import Derived.OpenShut
import Derived.SliceStrings
set_option linter.unusedVariables false
namespace Go.Proofs.Ytpnggkkfoipfhaa
open Go.ChangeShapes Go.WideShapes Go.ChangeAt Go.RowKit
section
variable {H : Type} {enc : TypeId × Value → H} {P : Program} {W : World}
theorem sv_of (s : ByteArray) : Value.string s = sv s.data.toList := by
  show Value.string s = Value.string ⟨s.data.toList.toArray⟩
  simp
theorem open_texts {t e : TypeId} (ht : P.underlying t = some (.slice e)) (he : P.underlying e = some .string) (hc : P.cellsOf e = 1) {v : Value} {d : DataW H} {p : List MemPlace} {base : Nat}
    (hval : Value.okWide P W .any base t v) (hd : DataW.Trod enc P W 0 (fun _ => true) true t v d p) :
    ∃ l : List (List UInt8), Ss W W.heap.size v l ∧ ∀ y ∈ l, y.length ≤ maxLen := by
  obtain ⟨a0, len0, cap0, rfl⟩ := okWide_slice ht hval
  obtain ⟨fuel, hf⟩ := hd
  rcases open_strings ht he hc hf with ⟨hcs, hx⟩ | ⟨a, len, cap, ss, hcs, _, hl, hm, hz, hx, hcell, hle⟩
  · simp [Value.cells] at hcs
    obtain ⟨rfl, rfl, rfl⟩ := hcs
    exact ⟨[], Sl.nil _ _ _, by simp⟩
  · simp [Value.cells] at hcs
    obtain ⟨rfl, rfl, rfl⟩ := hcs
    have hz' : ss.length = cap0 := by simpa using hz
    have htk : (ss.take len0).length = len0 := by rw [List.length_take]; omega
    refine ⟨(ss.take len0).map fun s => s.data.toList, ?_, ?_⟩
    · refine ⟨some a, len0, cap0, rfl, by rw [svs_length, List.length_map, htk]; omega, hl, hm, fun h0 => ?_⟩
      obtain ⟨b, off, spot⟩ := a
      have h1 := hcell 0 (by omega)
      have hspot : spot = none := by simpa [Addr.add] using World.cell?_spot h1
      subst hspot
      refine ⟨b, off, rfl, ?_, fun j u hu => ?_⟩
      · rw [plain_add] at h1
        exact World.block_lt_of_cell? W _ h1
      · unfold svs at hu
        rw [List.map_map] at hu
        have hj : j < (ss.take len0).length := by
          rcases Nat.lt_or_ge j (ss.take len0).length with h | h
          · exact h
          · rw [List.getElem?_eq_none (by simpa using h)] at hu; cases hu
        have h2 := hcell j (by omega)
        rw [plain_add] at h2
        rw [h2, ← hu]
        rw [List.getElem?_map, List.getElem?_take, if_pos (by omega), List.getElem?_eq_getElem (by omega)]
        simp only [Option.map_some, Function.comp_apply]
        rw [← sv_of, List.getD_eq_getElem?_getD, List.getElem?_eq_getElem (show j < ss.length by omega)]
        rfl
    · intro y hy
      obtain ⟨s, hs, rfl⟩ := List.mem_map.1 hy
      have h := hle s (List.mem_of_mem_take hs)
      have e : s.data.toList.length = s.size := Array.length_toList
      rw [e]; exact h
end
end Go.Proofs.Ytpnggkkfoipfhaa
