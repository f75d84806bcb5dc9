/- Strings as they are written, and tokens written one behind the other. -/
import Derived.Test.YtpgngegdflbahaaGreatDoorPQ
set_option linter.unusedVariables false
namespace Go.Proofs.YtpgngegdflbahaaGreatDoor

def escW (c : UInt8) : Bt := if c.toNat = 92 then [92, 92] else if c.toNat = 34 then [92, 34] else if c.toNat = 10 then [92, 110] else if c.toNat = 9 then [92, 116] else [c]
/-- A string as it is written. -/
def quoteW (t : Bt) : Bt := 34 :: (t.flatMap escW ++ [34])
theorem u8_eq {c : UInt8} {n : Nat} (hn : n < 256) (h : c.toNat = n) : c = UInt8.ofNat n := by
  apply UInt8.toNat_inj.1
  rw [UInt8.toNat_ofNat', h]; omega
theorem escB_W {c e : UInt8} (h : escB c = some e) : escW e = [92, c] := by
  unfold escB at h
  split at h
  · rename_i h1
    injection h with h; subst h
    rw [u8_eq (by omega) h1]; rfl
  · split at h
    · rename_i h1
      injection h with h; subst h
      rw [u8_eq (by omega) h1]; rfl
    · split at h
      · rename_i h1
        injection h with h; subst h
        rw [u8_eq (by omega) h1]; rfl
      · split at h
        · rename_i h1
          injection h with h; subst h
          rw [u8_eq (by omega) h1]; rfl
        · cases h
theorem quoteG_text {back : Bool} {out : Bt} {i : Nat} {s t : Bt} {n : Nat} (h : quoteG back out i s = some (t, n)) :
    ∃ u, t = out ++ u ∧ (if back then 92 :: s.take (n - i - 1) else s.take (n - i - 1)) = u.flatMap escW ++ [34] := by
  induction s generalizing back out i with
  | nil => cases back <;> simp [quoteG] at h
  | cons c s ih =>
    have hle := quoteG_le h
    simp only at hle
    rw [quoteG] at h
    obtain ⟨k, hk⟩ : ∃ k, n - i - 1 = k + 1 := ⟨n - i - 2, by omega⟩
    have hk' : n - (i + 1) - 1 = k := by omega
    rw [hk, List.take_succ_cons]
    split at h
    · cases h
    · rename_i h32
      cases back with
      | true =>
        rw [if_pos rfl] at h
        split at h
        · rename_i e he
          obtain ⟨u, h1, h2⟩ := ih h
          rw [if_neg (by simp), hk'] at h2
          refine ⟨e :: u, by rw [h1]; simp, ?_⟩
          rw [if_pos rfl, h2, List.flatMap_cons, escB_W he]; rfl
        · cases h
      | false =>
        rw [if_neg (by simp)] at h
        rw [if_neg (by simp)]
        split at h
        · rename_i h92
          obtain ⟨u, h1, h2⟩ := ih h
          rw [if_pos rfl, hk'] at h2
          refine ⟨u, h1, ?_⟩
          rw [← h2, u8_eq (by omega) h92]; rfl
        · rename_i h92
          split at h
          · rename_i h34
            injection h with h
            simp only [Prod.mk.injEq] at h
            obtain ⟨rfl, rfl⟩ := h
            obtain rfl : k = 0 := by omega
            exact ⟨[], by simp, by rw [u8_eq (by omega) h34]; rfl⟩
          · rename_i h34
            obtain ⟨u, h1, h2⟩ := ih h
            rw [if_neg (by simp), hk'] at h2
            refine ⟨c :: u, by rw [h1]; simp, ?_⟩
            rw [h2, List.flatMap_cons]
            unfold escW
            rw [if_neg h92, if_neg h34, if_neg (by omega), if_neg (by omega)]; rfl
/-- A token as it is written. -/
def writeT (x : Int × Bt) : Bt := if x.1 = 4 then quoteW x.2 else x.2
theorem nextT_raw {s : Bt} {kd : Int} {t : Bt} {n : Nat} (h : nextT s = .inr (kd, t, n)) : s.take n = writeT (kd, t) := by
  by_cases hk : kd = 4
  · subst hk
    have hs := h
    cases s with
    | nil => simp [nextT] at h
    | cons c r =>
      rw [nextT] at h
      by_cases hl : letterB c = true
      · rw [if_pos hl] at h
        repeat' split at h
        all_goals first | cases h; done | (injection h with h; simp only [Prod.mk.injEq] at h; exact absurd h.1 (by decide))
      · rw [if_neg hl] at h
        by_cases hd : digitB c = true
        · rw [if_pos hd] at h
          repeat' split at h
          all_goals first | cases h; done | (injection h with h; simp only [Prod.mk.injEq] at h; exact absurd h.1 (by decide))
        · rw [if_neg hd] at h
          by_cases h34 : c.toNat = 34
          · rw [if_pos h34] at h
            split at h
            · cases h
            · rename_i t' n' hq
              split at h
              · cases h
              · injection h with h
                simp only [Prod.mk.injEq] at h
                obtain ⟨_, rfl, rfl⟩ := h
                unfold quoteL at hq
                rw [List.drop_succ_cons, List.drop_zero] at hq
                have hle := quoteG_le hq
                simp only at hle
                obtain ⟨u, h1, h2⟩ := quoteG_text hq
                rw [if_neg (by simp)] at h2
                obtain ⟨m, hm⟩ : ∃ m, n' = m + 1 := ⟨n' - 1, by omega⟩
                subst hm
                rw [List.nil_append] at h1
                subst h1
                rw [List.take_succ_cons, show m = m + 1 - 0 - 1 by omega, h2, u8_eq (by omega) h34]
                rfl
          · rw [if_neg h34] at h
            repeat' split at h
            all_goals first | cases h; done | (injection h with h; simp only [Prod.mk.injEq] at h; exact absurd h.1 (by decide))
  · unfold writeT
    rw [if_neg hk]
    exact ((nextT_text h).1 hk).symm
/-- A token that is read of what is written of it. -/
def Good (x : Int × Bt) : Prop := nextT (writeT x) = .inr (x.1, x.2, (writeT x).length)
theorem nextT_good {s : Bt} {kd : Int} {t : Bt} {n : Nat} (h : nextT s = .inr (kd, t, n)) : Good (kd, t) ∧ (writeT (kd, t)).length = n := by
  have h1 := nextT_own h
  have h2 := nextT_raw h
  have h3 : (s.take n).length = n := by rw [List.length_take]; have := (nextT_le h).2; omega
  unfold Good
  rw [← h2, h3]
  exact ⟨h1, rfl⟩
def widthT (l : List (Int × Bt)) : Nat := (l.map fun x => (writeT x).length).sum
theorem lexK_good : ∀ (f : Nat) (s : Bt) (l : List (Int × Bt)), lexK f s = some l → (∀ x ∈ l, Good x) ∧ widthT l ≤ s.length ∧ l.length ≤ s.length
  | 0, s, l, h => by simp [lexK] at h
  | f + 1, s, l, h => by
    rw [lexK] at h
    split at h
    · injection h with h; subst h; exact ⟨by simp, by simp [widthT], by simp⟩
    · split at h
      · cases h
      · rename_i kd t n hn
        rw [Option.map_eq_some_iff] at h
        obtain ⟨l', h1, rfl⟩ := h
        obtain ⟨a, b, c⟩ := lexK_good f _ l' h1
        obtain ⟨g1, g2⟩ := nextT_good hn
        obtain ⟨n1, n2⟩ := nextT_le hn
        simp only [List.length_drop] at b c n2
        refine ⟨fun x hx => ?_, ?_, ?_⟩
        · rcases List.mem_cons.1 hx with rfl | hx
          · exact g1
          · exact a x hx
        · unfold widthT at b ⊢
          rw [List.map_cons, List.sum_cons, g2]; omega
        · rw [List.length_cons]; omega
def joinT (l : List (Int × Bt)) : Bt := l.flatMap fun x => 32 :: writeT x
theorem joinT_length (l : List (Int × Bt)) : (joinT l).length = widthT l + l.length := by
  induction l with
  | nil => rfl
  | cons x l ih =>
    unfold joinT widthT at *
    rw [List.flatMap_cons, List.length_append, ih, List.map_cons, List.sum_cons, List.length_cons, List.length_cons]; omega
theorem joinT_more (l : List (Int × Bt)) : joinT l ++ [32] = [32] ∨ ∃ r, joinT l ++ [32] = 32 :: r := by
  cases l with
  | nil => exact .inl rfl
  | cons x l => exact .inr ⟨_, rfl⟩
theorem lexK_again : ∀ (l : List (Int × Bt)) (f : Nat), (∀ x ∈ l, Good x) → (joinT l ++ [32]).length < f → lexK f (joinT l ++ [32]) = some l
  | [], f, _, hf => by
    obtain ⟨f', rfl⟩ : ∃ f', f = f' + 1 := ⟨f - 1, by omega⟩
    rfl
  | x :: l, f, hg, hf => by
    obtain ⟨f', rfl⟩ : ∃ f', f = f' + 1 := ⟨f - 1, by omega⟩
    have hx : nextT (writeT x) = .inr (x.1, x.2, (writeT x).length) := hg x (by simp)
    have e : joinT (x :: l) ++ [32] = 32 :: (writeT x ++ (joinT l ++ [32])) := by unfold joinT; simp
    obtain ⟨c, r, hc⟩ : ∃ c r, writeT x = c :: r := by
      cases hw : writeT x with
      | nil => rw [hw] at hx; simp [nextT] at hx
      | cons c r => exact ⟨c, r, rfl⟩
    obtain ⟨b1, b2⟩ := nextT_head (by rw [← hc]; exact hx)
    have hs : skipL (writeT x ++ (joinT l ++ [32])) = 0 := by
      rw [hc, List.cons_append]
      unfold skipL
      rw [skipG, if_neg (by simp [b1]), if_neg b2]
    have hs1 : skipL (32 :: (writeT x ++ (joinT l ++ [32]))) = 1 := by
      unfold skipL at hs ⊢
      rw [skipG, if_pos (by decide), hs]
    have hn : nextT (writeT x ++ (joinT l ++ [32])) = .inr (x.1, x.2, (writeT x).length) := by
      rcases joinT_more l with h | ⟨r, h⟩
      · rw [h]; exact nextT_stop _ (by decide) hx
      · rw [h]; exact nextT_stop _ (by decide) hx
    rw [e] at hf ⊢
    rw [lexK, hs1, List.drop_succ_cons, List.drop_zero, if_neg (by rw [hc]; simp), hn]
    simp only
    rw [List.drop_left, lexK_again l f' (fun y hy => hg y (by simp [hy])) (by simp only [List.length_cons, List.length_append] at hf ⊢; omega)]
    rfl
theorem le_sum {l : List Nat} {n : Nat} (h : n ∈ l) : n ≤ l.sum := by
  induction l with
  | nil => simp at h
  | cons m l ih =>
    rw [List.sum_cons]
    rcases List.mem_cons.1 h with rfl | h
    · omega
    · have := ih h; omega
/-- The tokens of a text, written one behind the other, are the same ones. -/
theorem again_law (s : Bt) (hs : s.length ≤ 3000) (l : List TokD) (h : lexL s = (l, (0, 0, 0))) :
    l.length ≤ 3001 ∧ (joinT (l.map ktOf)).length ≤ 6001 ∧ (∀ t ∈ l, (writeT (ktOf t)).length ≤ 3000) ∧ ∃ m, lexL (joinT (l.map ktOf)) = (m, (0, 0, 0)) ∧ m.map ktOf = l.map ktOf := by
  rw [lexL_F s (by omega)] at h
  rcases lexK_of (s.length + 1) s (1, 1) [] (by omega) (by simp; omega) with ⟨_, _, k3⟩ | ⟨m, e, k1, k2, k3⟩
  · exact absurd (by rw [h]) k3
  · rw [h, List.nil_append] at k2
    obtain rfl : l = m ++ [e] := (Prod.mk.inj k2).1
    obtain ⟨g1, g2, g3⟩ := lexK_good _ _ _ k1
    rw [List.length_map] at g3
    have he : (writeT (ktOf e)).length = 0 := by rw [k3]; rfl
    have ej : joinT ((m ++ [e]).map ktOf) = joinT (m.map ktOf) ++ [32] := by
      rw [List.map_append]
      unfold joinT
      rw [List.flatMap_append]
      simp only [List.map_cons, List.map_nil, k3, List.flatMap_cons, List.flatMap_nil, List.append_nil]
      rfl
    have hl := joinT_length (m.map ktOf)
    rw [List.length_map] at hl
    refine ⟨by simp; omega, by rw [ej, List.length_append, hl]; simp; omega, fun t ht => ?_, ?_⟩
    · rcases List.mem_append.1 ht with ht | ht
      · have : (writeT (ktOf t)).length ≤ widthT (m.map ktOf) := by
          unfold widthT
          exact le_sum (List.mem_map.2 ⟨ktOf t, List.mem_map.2 ⟨t, ht, rfl⟩, rfl⟩)
        omega
      · obtain rfl : t = e := by simpa using ht
        omega
    · rw [ej, lexL_F _ (by rw [List.length_append, hl]; simp; omega)]
      have hk := lexK_again (m.map ktOf) ((joinT (m.map ktOf) ++ [32]).length + 1) g1 (by omega)
      rcases lexK_of ((joinT (m.map ktOf) ++ [32]).length + 1) (joinT (m.map ktOf) ++ [32]) (1, 1) [] (by omega) (by rw [List.length_append, hl]; simp; omega) with ⟨j1, _, _⟩ | ⟨m2, e2, j1, j2, j3⟩
      · rw [hk] at j1; cases j1
      · rw [hk] at j1
        injection j1 with j1
        exact ⟨m2 ++ [e2], by rw [j2]; simp, by rw [List.map_append, List.map_append, j1]; simp [k3, j3]⟩

theorem quoteG_back (s : Bt) : ∀ (out : Bt) (i : Nat) (x : Bt), (∀ c ∈ s, 32 ≤ c.toNat ∨ c.toNat = 9 ∨ c.toNat = 10) → quoteG false out i (s.flatMap escW ++ 34 :: x) = some (out ++ s, i + (s.flatMap escW).length + 2) := by
  induction s with
  | nil => intro out i x _; simp [quoteG]
  | cons c s ih =>
    intro out i x hc
    have hs : ∀ c ∈ s, 32 ≤ c.toNat ∨ c.toNat = 9 ∨ c.toNat = 10 := fun d hd => hc d (by simp [hd])
    have h0 := hc c (by simp)
    have two : ∀ (d e : UInt8), 32 ≤ d.toNat → escB d = some e → e = c → escW c = [92, d] → quoteG false out i (escW c ++ (s.flatMap escW ++ 34 :: x)) = some (out ++ c :: s, i + ((escW c).length + (s.flatMap escW).length) + 2) := by
      intro d e hd he hec hw
      subst hec
      rw [hw]
      show quoteG false out i (92 :: d :: (s.flatMap escW ++ 34 :: x)) = _
      rw [quoteG, if_neg (by decide), if_neg (by simp), if_pos (by decide), quoteG, if_neg (by omega), if_pos rfl, he]
      simp only
      rw [ih _ _ _ hs]
      simp; omega
    rw [List.flatMap_cons, List.append_assoc, List.length_append]
    by_cases h92 : c.toNat = 92
    · exact two 92 92 (by decide) rfl (u8_eq (by omega) h92).symm (by unfold escW; rw [if_pos h92])
    · by_cases h34 : c.toNat = 34
      · exact two 34 34 (by decide) rfl (u8_eq (by omega) h34).symm (by unfold escW; rw [if_neg h92, if_pos h34])
      · by_cases h10 : c.toNat = 10
        · exact two 110 10 (by decide) rfl (u8_eq (by omega) h10).symm (by unfold escW; rw [if_neg h92, if_neg h34, if_pos h10])
        · by_cases h9 : c.toNat = 9
          · exact two 116 9 (by decide) rfl (u8_eq (by omega) h9).symm (by unfold escW; rw [if_neg h92, if_neg h34, if_neg h10, if_pos h9])
          · have hw : escW c = [c] := by unfold escW; rw [if_neg h92, if_neg h34, if_neg h10, if_neg h9]
            rw [hw]
            show quoteG false out i (c :: (s.flatMap escW ++ 34 :: x)) = _
            rw [quoteG, if_neg (by omega), if_neg (by simp), if_neg h92, if_neg h34, ih _ _ _ hs]
            simp; omega
theorem escW_len (c : UInt8) : 1 ≤ (escW c).length ∧ (escW c).length ≤ 2 := by
  unfold escW
  repeat' split
  all_goals simp
theorem quoteW_len (s : Bt) : (quoteW s).length ≤ 2 * s.length + 2 := by
  unfold quoteW
  have : (s.flatMap escW).length ≤ 2 * s.length := by
    induction s with
    | nil => simp
    | cons c s ih => have := (escW_len c).2; rw [List.flatMap_cons, List.length_append, List.length_cons]; omega
  rw [List.length_cons, List.length_append, List.length_cons, List.length_nil]; omega
/-- A string without other control bytes than line feeds and tabs is read as it was. -/
theorem quote_law (s : Bt) (hs : s.length ≤ 5000) (hc : ∀ c ∈ s, 32 ≤ c.toNat ∨ c.toNat = 9 ∨ c.toNat = 10) :
    (256 < s.length → lexL (quoteW s) = ([], (1, 1, 2))) ∧ (s.length ≤ 256 → ∃ e, lexL (quoteW s) = ([⟨4, s, 1, 1⟩, e], (0, 0, 0))) := by
  have hl := quoteW_len s
  have hq : quoteL (quoteW s) = some (s, (quoteW s).length) := by
    unfold quoteL quoteW
    rw [List.drop_succ_cons, List.drop_zero, quoteG_back s [] 0 [] hc]
    simp only [List.nil_append, List.length_cons, List.length_append, List.length_nil, Option.some.injEq, Prod.mk.injEq, true_and]; omega
  have hsk : skipL (quoteW s) = 0 := by
    unfold skipL quoteW
    rw [skipG, if_neg (by decide), if_neg (by decide)]
  have hn : nextT (quoteW s) = if 256 < s.length then .inl 2 else .inr (4, s, (quoteW s).length) := by
    have : quoteW s = 34 :: (s.flatMap escW ++ [34]) := rfl
    rw [this, nextT, ← this, if_neg (by decide), if_neg (by decide), if_pos (by decide), hq]
  have hne : ¬ quoteW s = [] := by unfold quoteW; simp
  rw [lexL_F _ (by omega), lexF, hsk, List.drop_zero, List.take_zero, if_neg hne, hn]
  constructor
  · intro h
    rw [if_pos h]
    rfl
  · intro h
    rw [if_neg (by omega)]
    simp only
    rw [if_neg (by simp), List.drop_length]
    obtain ⟨k, hk⟩ : ∃ k, (quoteW s).length = k + 1 := ⟨(quoteW s).length - 1, by unfold quoteW; simp⟩
    rw [hk, lexF, if_pos (by simp)]
    exact ⟨_, rfl⟩
end Go.Proofs.YtpgngegdflbahaaGreatDoor
