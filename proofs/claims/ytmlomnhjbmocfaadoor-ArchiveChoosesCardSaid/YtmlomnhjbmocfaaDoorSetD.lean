/- Rows of strings in order, none twice: what setS gives; what has the same strings gives the same. No program in sight. -/
import Derived.Test.YtmlomnhjbmocfaaDoorNameW
set_option linter.all false
namespace Go.Proofs.YtmlomnhjbmocfaaDoor
open Go.RowKit

/-- Rising, none twice. -/
def Rising (l : List (List UInt8)) : Prop := l.Pairwise fun a b => a ≤ b ∧ a ≠ b
theorem rising_unique : ∀ {l m : List (List UInt8)}, Rising l → Rising m → (∀ x, x ∈ l ↔ x ∈ m) → l = m
  | [], [], _, _, _ => rfl
  | [], b :: m, _, _, h => absurd ((h b).2 (by simp)) (by simp)
  | a :: l, [], _, _, h => absurd ((h a).1 (by simp)) (by simp)
  | a :: l, b :: m, hl, hm, h => by
    obtain ⟨h1, h2⟩ := List.pairwise_cons.1 hl
    obtain ⟨h3, h4⟩ := List.pairwise_cons.1 hm
    have e : a = b := by
      rcases List.mem_cons.1 ((h a).1 (by simp)) with e | ha
      · exact e
      · rcases List.mem_cons.1 ((h b).2 (by simp)) with e | hb
        · exact e.symm
        · exact List.le_antisymm (h1 b hb).1 (h3 a ha).1
    subst e
    refine congrArg (a :: ·) (rising_unique h2 h4 fun x => ⟨fun hx => ?_, fun hx => ?_⟩)
    · rcases List.mem_cons.1 ((h x).1 (List.mem_cons_of_mem _ hx)) with e | hx'
      · exact absurd e.symm (h1 x hx).2
      · exact hx'
    · rcases List.mem_cons.1 ((h x).2 (List.mem_cons_of_mem _ hx)) with e | hx'
      · exact absurd e.symm (h3 x hx).2
      · exact hx'
theorem compact_rising {zs : List (List UInt8)} (h : zs.Pairwise fun a b => a ≤ b) : Rising (Lib.compact zs) ∧ ∀ x, x ∈ Lib.compact zs ↔ x ∈ zs := by
  have key : ∀ m, m ≤ zs.length → Rising (Lib.compactUpTo zs.toArray m) ∧ (∀ x, x ∈ Lib.compactUpTo zs.toArray m ↔ x ∈ zs.take m) := by
    intro m
    induction m with
    | zero => intro _; exact ⟨List.Pairwise.nil, fun x => by simp [Lib.compactUpTo]⟩
    | succ m ih =>
      intro hm
      obtain ⟨h1, h2⟩ := ih (by omega)
      have hget : zs.toArray[m]! = zs[m] := by simp [getElem!_pos, show m < zs.length by omega]
      rw [Lib.compactUpTo_succ]
      have htk : zs.take (m + 1) = zs.take m ++ [zs[m]] := by rw [List.take_add_one, List.getElem?_eq_getElem (by omega)]; rfl
      have hle : ∀ x ∈ zs.take m, x ≤ zs[m] := by
        intro x hx
        obtain ⟨i, hi, rfl⟩ := List.getElem_of_mem hx
        rw [List.getElem_take]
        have hi' : i < m := by rw [List.length_take] at hi; omega
        exact List.pairwise_iff_getElem.1 h i m (by omega) (by omega) hi'
      by_cases hk : Lib.keeps zs.toArray m = true
      · rw [if_pos hk, hget]
        refine ⟨List.pairwise_append.2 ⟨h1, List.pairwise_singleton _ _, fun x hx y hy => ?_⟩, fun x => by rw [htk, List.mem_append, List.mem_append, h2 x]⟩
        obtain rfl : y = zs[m] := by simpa using hy
        have hx' := (h2 x).1 hx
        refine ⟨hle x hx', fun e => ?_⟩
        have hm0 : 0 < m := by
          rcases Nat.eq_zero_or_pos m with h0 | h0
          · subst h0; simp at hx'
          · exact h0
        simp only [Lib.keeps, decide_eq_true_eq] at hk
        rcases hk with hk | hk
        · omega
        · have hget1 : zs.toArray[m - 1]! = zs[m - 1] := by simp [getElem!_pos, show m - 1 < zs.length by omega]
          rw [hget, hget1] at hk
          apply hk
          have h3 : zs[m - 1] ≤ zs[m] := List.pairwise_iff_getElem.1 h (m - 1) m (by omega) (by omega) (by omega)
          have h4 : x ≤ zs[m - 1] := by
            obtain ⟨i, hi, rfl⟩ := List.getElem_of_mem hx'
            rw [List.getElem_take]
            have hi' : i < m := by rw [List.length_take] at hi; omega
            rcases Nat.lt_or_ge i (m - 1) with h5 | h5
            · exact List.pairwise_iff_getElem.1 h i (m - 1) (by omega) (by omega) h5
            · obtain rfl : i = m - 1 := by omega
              exact List.le_refl _
          rw [e] at h4
          exact List.le_antisymm h4 h3
      · rw [if_neg hk, List.append_nil]
        refine ⟨h1, fun x => ?_⟩
        rw [h2 x, htk, List.mem_append]
        refine ⟨.inl, fun hx => hx.elim id fun hx => ?_⟩
        obtain rfl : x = zs[m] := by simpa using hx
        simp only [Lib.keeps, decide_eq_true_eq, not_or, ne_eq, Decidable.not_not] at hk
        obtain ⟨hk0, hk1⟩ := hk
        have hget1 : zs.toArray[m - 1]! = zs[m - 1] := by simp [getElem!_pos, show m - 1 < zs.length by omega]
        rw [hget, hget1] at hk1
        rw [hk1]
        exact List.mem_of_getElem? (i := m - 1) (by rw [List.getElem?_take_of_lt (by omega), List.getElem?_eq_getElem (by omega)])
  have := key zs.length (Nat.le_refl _)
  rw [List.take_length] at this
  exact this
theorem sort_sorted (l : List (List UInt8)) : (l.mergeSort fun x y => decide (x ≤ y)).Pairwise fun a b => a ≤ b := by
  have := List.pairwise_mergeSort (le := fun x y : List UInt8 => decide (x ≤ y)) (by intro a b c; simp; exact fun h h2 => List.le_trans h h2) (by intro a b; simp; exact List.le_total a b) l
  exact this.imp (by intro a b; simp)
theorem setS_key (l : List ByteArray) : (setS l).map keyOf = Lib.compact ((l.map keyOf).mergeSort fun x y => decide (x ≤ y)) := by
  unfold setS
  rw [compS_key, sortS_key]
theorem setS_rising (l : List ByteArray) : Rising ((setS l).map keyOf) := by
  rw [setS_key]
  exact (compact_rising (sort_sorted _)).1
theorem key_mem {l : List ByteArray} {s : ByteArray} : keyOf s ∈ l.map keyOf ↔ s ∈ l := by
  constructor
  · intro h
    obtain ⟨t, ht, e⟩ := List.mem_map.1 h
    have : t = s := by rw [← of_key t, e, of_key]
    rw [← this]; exact ht
  · exact fun h => List.mem_map_of_mem h
theorem setS_mem {l : List ByteArray} {s : ByteArray} : s ∈ setS l ↔ s ∈ l := by
  rw [← key_mem, setS_key, (compact_rising (sort_sorted _)).2, (List.mergeSort_perm _ _).mem_iff, key_mem]
theorem setS_congr {l m : List ByteArray} (h : ∀ s, s ∈ l ↔ s ∈ m) : setS l = setS m := by
  have e : (setS l).map keyOf = (setS m).map keyOf := by
    refine rising_unique (setS_rising l) (setS_rising m) fun x => ?_
    rw [show x = keyOf (ofKey x) from (key_of x).symm, key_mem, key_mem, setS_mem, setS_mem]
    exact h _
  rw [← map_of_key (setS l), e, map_of_key]
/-- A row in order, none twice, is what setS gives of it. -/
theorem setS_same {l : List ByteArray} (h : Rising (l.map keyOf)) : setS l = l := by
  have e : (setS l).map keyOf = l.map keyOf := by
    refine rising_unique (setS_rising l) h fun x => ?_
    rw [show x = keyOf (ofKey x) from (key_of x).symm, key_mem, key_mem, setS_mem]
  rw [← map_of_key (setS l), e, map_of_key]
end Go.Proofs.YtmlomnhjbmocfaaDoor
