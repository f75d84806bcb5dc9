/- Opening arguments: what a slice of bytes that came in reads as. -/
import Derived.Test.YtpnggkkfoipfhaaM
import Derived.Test.YtpnggkkfoipfhaaPW
import Derived.ProofKit
import Derived.OpenShut
import Derived.SizedLaws
set_option linter.unusedVariables false
namespace Go.Proofs.Ytpnggkkfoipfhaa
open Go.ChangeShapes Go.WideShapes Go.ChangeAt Go.RowKit
section
variable {H : Type} {enc : TypeId × Value → H} {P : Program} {W : World}
theorem open_bytes {t e : TypeId} (ht : P.underlying t = some (.slice e)) (he : P.underlying e = some (.int .u8)) (hc : P.cellsOf e = 1) {v : Value} {d : DataW H} {p : List MemPlace} {base : Nat}
    (hval : Value.okWide P W .any base t v) (hd : DataW.Trod enc P W 0 (fun _ => true) true t v d p) :
    ∃ l : List UInt8, Bs W W.heap.size v l ∧ ((d = .nil ∧ l = []) ∨ ∃ els spare, d = .slice els spare ∧ els.length = l.length) := by
  obtain ⟨a0, len0, cap0, rfl⟩ := okWide_slice ht hval
  obtain ⟨fuel, hf⟩ := hd
  rcases open_ints ht he hc hf with ⟨hcs, hx⟩ | ⟨a, len, cap, zs, hcs, _, hl, hm, hz, hx, hcell, hwz⟩
  · simp [Value.cells] at hcs
    obtain ⟨rfl, rfl, rfl⟩ := hcs
    exact ⟨[], Sl.nil _ _ _, .inl ⟨(Prod.mk.inj hx).1, rfl⟩⟩
  · simp [Value.cells] at hcs
    obtain ⟨rfl, rfl, rfl⟩ := hcs
    have hz' : zs.length = cap0 := by simpa using hz
    have hb : ∀ n ∈ zs, 0 ≤ n ∧ n < 256 := fun n hn => by
      have := bounds_u8 (hwz n hn)
      omega
    have hlist : ∀ ys : List Int, (∀ n ∈ ys, 0 ≤ n ∧ n < 256) → bv (ys.map fun n => UInt8.ofNat n.toNat) = ys.map (Value.int .u8) := by
      intro ys hy
      unfold bv
      rw [List.map_map]
      apply List.map_congr_left
      intro n hn
      have := hy n hn
      show Value.int .u8 ((UInt8.ofNat n.toNat).toNat : Int) = _
      rw [UInt8.toNat_ofNat']
      congr 1; omega
    refine ⟨(zs.take len0).map fun n => UInt8.ofNat n.toNat, ?_, .inr ⟨_, _, (Prod.mk.inj hx).1, by simp [lits]⟩⟩
    have htk : (zs.take len0).length = len0 := by rw [List.length_take]; omega
    refine ⟨some a, len0, cap0, rfl, by rw [bv_length, List.length_map, htk]; omega, hl, hm, fun h0 => ?_⟩
    obtain ⟨b, off, spot⟩ := a
    have h1 := hcell 0 (by omega)
    have hspot : spot = none := by simpa [Addr.add] using World.cell?_spot h1
    subst hspot
    refine ⟨b, off, rfl, ?_, fun j u hu => ?_⟩
    · rw [plain_add] at h1
      exact World.block_lt_of_cell? W _ h1
    · rw [hlist _ (fun n hn => hb n (List.mem_of_mem_take hn))] at hu
      have hj : j < (zs.take len0).length := by
        rcases Nat.lt_or_ge j (zs.take len0).length with h | h
        · exact h
        · rw [List.getElem?_eq_none (by simpa using h)] at hu; cases hu
      have h2 := hcell j (by omega)
      rw [plain_add] at h2
      rw [h2, ← hu]
      rw [List.getElem?_map, List.getElem?_take, if_pos (by omega), List.getElem?_eq_getElem (by omega)]
      simp [List.getD, List.getElem?_eq_getElem (show j < zs.length by omega)]
theorem bytes_le {ts : List TypeId} {ds : List (DataW H)} (h : (DataW.weightsEach P ts ds).all (· ≤ reachBytes) = true) {j : Nat} {t e : TypeId} {d : DataW H} {l : List UInt8} (ht : ts[j]? = some t) (hd : ds[j]? = some d) (hu : P.underlying t = some (.slice e)) (hb : P.bytesOf e = 1)
    (hl : (d = .nil ∧ l = []) ∨ ∃ els spare, d = .slice els spare ∧ els.length = l.length) : l.length ≤ 140737488351232 := by
  rcases hl with ⟨_, rfl⟩ | ⟨els, spare, rfl, he⟩
  · simp
  · have := sized_slice h ht hd hu
    rw [hb] at this
    have e : reachBytes = 140737488351232 := by decide
    omega
end
end Go.Proofs.Ytpnggkkfoipfhaa
