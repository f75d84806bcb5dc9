/- Opening the slice of calls that ShapeDoes takes. -/
import Derived.Test.YtaokgblkhnipgaaSS
import Derived.Test.YtaokgblkhnipgaaMT
import Derived.Deep.Slices
import Derived.Lib.SmallJoins
set_option linter.unusedVariables false
namespace Go.Proofs.Ytaokgblkhnipgaa
open Go.ChangeShapes Go.WideShapes Go.ChangeAt Go.RowKit

theorem texts_cell {H : Type} {enc : TypeId × Value → H} {P : Program} {W : World} {t e : TypeId} (ht : P.underlying t = some (.slice e)) (he : P.underlying e = some .string) (hc : P.cellsOf e = 1) {v : Value} {fuel : Nat} {x : DataW H × List MemPlace}
    (hf : DataW.trod enc P W 0 (fun _ => true) true fuel t [v] = some x) :
    ∃ l : List (List UInt8), Ss W W.heap.size v l ∧ ∀ y ∈ l, y.length ≤ maxLen := by
  rcases open_strings ht he hc hf with ⟨hcs, hx⟩ | ⟨a, len, cap, ss, hcs, _, hl, hm, hz, hx, hcell, hle⟩
  · obtain rfl : v = .slice none 0 0 := by simpa using hcs
    exact ⟨[], Sl.nil _ _ _, by simp⟩
  · obtain rfl : v = .slice (some a) len cap := by simpa using hcs
    have hz' : ss.length = cap := by simpa using hz
    have htk : (ss.take len).length = len := by rw [List.length_take]; omega
    refine ⟨(ss.take len).map fun s => s.data.toList, ?_, ?_⟩
    · refine ⟨some a, len, cap, rfl, by rw [svs_length, List.length_map, htk]; omega, hl, hm, fun h0 => ?_⟩
      obtain ⟨b, off, spot⟩ := a
      have h1 := hcell 0 (by omega)
      have hspot : spot = none := by simpa [Addr.add] using World.cell?_spot h1
      subst hspot
      refine ⟨b, off, rfl, ?_, fun j u hu => ?_⟩
      · rw [plain_add] at h1
        exact World.block_lt_of_cell? W _ h1
      · unfold svs at hu
        rw [List.map_map] at hu
        have hj : j < (ss.take len).length := by
          rcases Nat.lt_or_ge j (ss.take len).length with h | h
          · exact h
          · rw [List.getElem?_eq_none (by simpa using h)] at hu; cases hu
        have h2 := hcell j (by omega)
        rw [plain_add] at h2
        rw [h2, ← hu]
        rw [List.getElem?_map, List.getElem?_take, if_pos (by omega), List.getElem?_eq_getElem (by omega)]
        simp only [Option.map_some, Function.comp_apply]
        rw [← sv_of, List.getD_eq_getElem?_getD, List.getElem?_eq_getElem (show j < ss.length by omega)]
        rfl
    · intro y hy
      obtain ⟨s, hs, rfl⟩ := List.mem_map.1 hy
      have h := hle s (List.mem_of_mem_take hs)
      have e : s.data.toList.length = s.size := Array.length_toList
      rw [e]; exact h

/-- A call, in plain words. -/
structure OpD where
  s : Int
  name : Nm
  many : Bool
  names : List Nm
instance : Inhabited OpD := ⟨⟨0, [], false, []⟩⟩
def OpD.Ok (d : OpD) : Prop := d.name.length ≤ maxLen ∧ ∀ y ∈ d.names, y.length ≤ maxLen
def OpAt (w : World) (B b o : Nat) (d : OpD) : Prop :=
  w.cell? ⟨b, o, none⟩ = some (.int .i64 d.s) ∧ w.cell? ⟨b, o + 1, none⟩ = some (sv d.name) ∧ w.cell? ⟨b, o + 2, none⟩ = some (.bool d.many) ∧ ∃ v, w.cell? ⟨b, o + 3, none⟩ = some v ∧ Ss w B v d.names
def OpsAt (w : World) (B : Nat) (v : Value) (l : List OpD) : Prop :=
  ∃ (A : Option Addr) (c : Nat), v = .slice A l.length c ∧ l.length ≤ c ∧ c ≤ maxLen ∧
    (0 < l.length → ∃ b off, A = some ⟨b, off, none⟩ ∧ b < B ∧ ∀ (j : Nat) (hj : j < l.length), OpAt w B b (off + j * 4) l[j])

theorem open_op {H : Type} {enc : TypeId × Value → H} {W : World} {a : Addr} {cs' : List Value} {n : Nat} {x : DataW H × List MemPlace} (h1 : W.cells? 0 a 4 = some cs') (h2 : DataW.trod enc Try.prog W 0 (fun _ => true) true n 38 cs' = some x) :
    ∃ d : OpD, d.Ok ∧ a.spot = none ∧ a.block < W.heap.size ∧ OpAt W W.heap.size a.block a.off d := by
  obtain ⟨y0, y1, y2, y3, m, _, hlen, t0, t1, t2, t3⟩ := Joins.trod_struct4 Try.underlying38 h2
  have c4 : Try.prog.cellsOf 38 = 4 := by kernel_rfl
  have c1 : Try.prog.cellsOf 3 = 1 := by kernel_rfl
  have c2 : Try.prog.cellsOf 9 = 1 := by kernel_rfl
  have c3 : Try.prog.cellsOf 4 = 1 := by kernel_rfl
  have c5 : Try.prog.cellsOf 22 = 1 := by kernel_rfl
  rw [c4] at hlen
  obtain ⟨_, _, hcell⟩ := World.cells?_some h1
  match cs', hlen with
  | [u0, u1, u2, u3], _ =>
    simp only [c1, c2, c3, c5] at t0 t1 t2 t3
    obtain ⟨s, e0, _, _⟩ := DataW.trod_int Try.underlying3 t0
    obtain ⟨nm, e1, _, hnm⟩ := DataW.trod_string Try.underlying9 t1
    obtain ⟨q, e2, _⟩ := DataW.trod_bool Try.underlying4 t2
    obtain ⟨l, hl, hll⟩ := texts_cell Try.underlying22 Try.underlying9 c2 (v := u3) t3
    obtain rfl : u0 = .int .i64 s := by simpa using e0
    obtain rfl : u1 = .string nm := by simpa using e1
    obtain rfl : u2 = .bool q := by simpa using e2
    obtain ⟨b, off, spot⟩ := a
    have k0 := hcell 0 (by omega)
    have hspot : spot = none := by simpa [Addr.add] using World.cell?_spot k0
    subst hspot
    have k1 := hcell 1 (by omega)
    have k2 := hcell 2 (by omega)
    have k3 := hcell 3 (by omega)
    rw [plain_add] at k0 k1 k2 k3
    refine ⟨⟨s, nm.data.toList, q, l⟩, ⟨?_, hll⟩, rfl, World.block_lt_of_cell? W _ k0, k0, ?_, k2, u3, k3, hl⟩
    · have e : nm.data.toList.length = nm.size := Array.length_toList
      show nm.data.toList.length ≤ maxLen
      rw [e]; exact hnm
    · rw [← sv_of]; exact k1

theorem open_ops {H : Type} {enc : TypeId × Value → H} {W : World} {v : Value} {d : DataW H} {p : List MemPlace} {base : Nat} (hval : Value.okWide Try.prog W .any base 34 v) (hd : DataW.Trod enc Try.prog W 0 (fun _ => true) true 34 v d p) :
    ∃ l : List OpD, OpsAt W W.heap.size v l ∧ ∀ o ∈ l, o.Ok := by
  obtain ⟨a0, len0, cap0, rfl⟩ := okWide_slice Try.underlying34 hval
  obtain ⟨fuel, hf⟩ := hd
  have c4 : Try.prog.cellsOf 38 = 4 := by kernel_rfl
  rcases Deep.open_slice Try.underlying34 hf with ⟨hcs, hx⟩ | ⟨a, len, cap, m, n, D, Pl, hcs, _, hl, hm, hz, hx, hel⟩
  · simp [Value.cells] at hcs
    obtain ⟨rfl, rfl, rfl⟩ := hcs
    exact ⟨[], ⟨none, 0, rfl, Nat.le_refl _, Nat.zero_le _, fun h => absurd h (by simp)⟩, by simp⟩
  · simp [Value.cells] at hcs
    obtain ⟨rfl, rfl, rfl⟩ := hcs
    have hlm : len0 ≤ m := by rw [hz]; simp; exact hl
    obtain ⟨f, hf⟩ := Deep.choose_lt (n := len0) (p := fun i (d : OpD) => d.Ok ∧ (a.add (i * 4)).spot = none ∧ (a.add (i * 4)).block < W.heap.size ∧ OpAt W W.heap.size (a.add (i * 4)).block (a.add (i * 4)).off d) (fun i hi => by
      obtain ⟨cs', k1, k2⟩ := hel i (by omega)
      rw [c4] at k1
      exact open_op k1 k2)
    refine ⟨(List.range len0).map f, ⟨some a, cap0, by simp, by simpa using hl, hm, fun h0 => ?_⟩, ?_⟩
    · simp at h0
      obtain ⟨b, off, spot⟩ := a
      have hspot : spot = none := by
        have := (hf 0 h0).2.1
        simpa [Addr.add] using this
      subst hspot
      refine ⟨b, off, rfl, ?_, fun j hj => ?_⟩
      · have := (hf 0 h0).2.2.1
        rw [plain_add] at this; exact this
      · have hj' : j < len0 := by simpa using hj
        have := (hf j hj').2.2.2
        rw [plain_add] at this
        simpa using this
    · intro o ho
      obtain ⟨i, hi, rfl⟩ := List.mem_map.1 ho
      exact (hf i (List.mem_range.1 hi)).1
end Go.Proofs.Ytaokgblkhnipgaa
