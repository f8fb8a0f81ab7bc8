/- slices.Sort and slices.Compact at strings of a call's own: what they leave. -/
import Derived.Test.YtmlomnhjbmocfaaDoorSortP
import Derived.Test.YtmlomnhjbmocfaaDoorB1
import Derived.Test.YtmlomnhjbmocfaaDoorBC
import Derived.Sort.OwnSorted
import Derived.Lib.OwnBridge
set_option linter.all false
namespace Go.Proofs.YtmlomnhjbmocfaaDoor
open Go.RowKit Go.Shelf Go.Sort

def keyOf (s : ByteArray) : List UInt8 := s.data.toList
def ofKey (k : List UInt8) : ByteArray := ⟨k.toArray⟩
theorem key_of (k : List UInt8) : keyOf (ofKey k) = k := by simp [keyOf, ofKey]
theorem of_key (s : ByteArray) : ofKey (keyOf s) = s := by simp [keyOf, ofKey]
theorem map_key_of (l : List (List UInt8)) : (l.map ofKey).map keyOf = l := by
  rw [List.map_map]
  exact (List.map_congr_left fun k _ => key_of k).trans (List.map_id l)
theorem map_of_key (l : List ByteArray) : (l.map keyOf).map ofKey = l := by
  rw [List.map_map]
  exact (List.map_congr_left fun k _ => of_key k).trans (List.map_id l)
theorem encStr_strs (l : List (List UInt8)) : l.map encStr = strsV (l.map ofKey) := by
  have := Lib.map_encStr (l.map ofKey)
  rw [show (l.map ofKey).map (fun x : ByteArray => x.data.toList) = l from map_key_of l] at this
  exact this
theorem strs_encStr (l : List ByteArray) : strsV l = (l.map keyOf).map encStr := (Lib.map_encStr l).symm
/-- The strings in order; those that are like the one ahead of them left out. -/
def sortS (l : List ByteArray) : List ByteArray := ((l.map keyOf).mergeSort fun x y => decide (x ≤ y)).map ofKey
def compS (l : List ByteArray) : List ByteArray := (Lib.compact (l.map keyOf)).map ofKey
theorem sortS_len (l : List ByteArray) : (sortS l).length = l.length := by simp [sortS]
theorem sortS_key (l : List ByteArray) : (sortS l).map keyOf = (l.map keyOf).mergeSort fun x y => decide (x ≤ y) := map_key_of _
theorem compS_key (l : List ByteArray) : (compS l).map keyOf = Lib.compact (l.map keyOf) := map_key_of _
theorem compS_len (l : List ByteArray) : (compS l).length ≤ l.length := by
  have := Lib.compact_length_le (l.map keyOf)
  simpa [compS] using this
theorem grownBy_put {w : World} {g q : Nat} (d : Array (List UInt8)) : w.grownBy (putRow encStr (Sort.ahead w q) g 0 d) (some g) := by
  refine ⟨rfl, rfl, rfl, by simp [putRow, mapBlock, Sort.ahead], fun k hk hne => ?_⟩
  have : g ≠ k := fun e => hne (by rw [e])
  simp [putRow, mapBlock, Sort.ahead, Array.getElem?_modify, this]
theorem grownBy_same (w : World) (r : Option Nat) : w.grownBy w r := ⟨rfl, rfl, rfl, Nat.le_refl _, fun _ _ _ => rfl⟩

theorem sort_own {w : World} {base n : Nat} {v : Value} {l : List ByteArray} (h : w.ownsRow base 9 1 v n (strsV l)) (hn : n < 4611686018427387904) :
    Calls Tryd.prog 107 #[v] w fun e w' => e = .returned (.tuple #[]) ∧ w'.ownsRow base 9 1 v n (strsV (sortS l)) ∧ w.grownBy w' v.ownBlock := by
  by_cases hv : v = .slice none 0 0
  · subst hv
    refine (Any.slices_Sort_string_none Tryd.laysSort none 0 w).mono ?_
    rintro e w' ⟨rfl, rfl⟩
    have hl : l = [] := by
      rcases h.2 with ⟨_, h0⟩ | ⟨g, cap, cur, h0, _⟩
      · have := h.1
        cases l with
        | nil => rfl
        | cons a r => simp [strsV] at h0 this; omega
      · cases h0
    subst hl
    exact ⟨rfl, by rw [show sortS [] = [] from by simp [sortS]]; exact h, grownBy_same _ _⟩
  · rw [strs_encStr] at h
    obtain ⟨g, cap, rfl, hb, hg, hnc, hcm, hlen, hH⟩ := Lib.holds_of_ownsRow h hv
    rcases h.2 with ⟨e0, _⟩ | ⟨g', cap', cur, e0, hb', hg', hn', hm', hs', ht'⟩
    · cases e0
    · injection e0 with e1 _ e3
      injection e1 with e1
      injection e1 with e1
      subst e1
      subst e3
      have hc := Any.slices_Sort_string Tryd.laysSort g 0 cap (l.map keyOf) w hH hg (by omega)
      rw [hlen] at hc
      refine hc.mono ?_
      rintro e w' ⟨rfl, k, os, rfl⟩
      refine ⟨rfl, ?_, grownBy_sorted _⟩
      have hs := ownsRow_sorted (n := k) (os := os) (ts := (l.map keyOf).mergeSort fun x y => decide (x ≤ y)) (ss := l.map keyOf) (by simp) hb' hg' (by omega) hm' hs'
      rw [hlen] at hs
      rw [strs_encStr, sortS_key]
      exact hs

theorem compact_own {w : World} {base n : Nat} {v : Value} {l : List ByteArray} (h : w.ownsRow base 9 1 v n (strsV l)) (hn : n ≤ 9223372036854775807) :
    Calls Tryd.prog 108 #[v] w fun e w' => ∃ v', e = .returned v' ∧ w'.ownsRow base 9 1 v' (compS l).length (strsV (compS l)) ∧ w.grownBy w' v.ownBlock := by
  by_cases hv : v = .slice none 0 0
  · subst hv
    have hl : l = [] := by
      rcases h.2 with ⟨_, h0⟩ | ⟨g, cap, cur, h0, _⟩
      · have := h.1
        cases l with
        | nil => rfl
        | cons a r => simp [strsV] at h0 this; omega
      · cases h0
    subst hl
    refine (calls_of_every_depth fun D => AnyS.slices_Compact_string_empty_in Tryd.laysCompact D none 0 w).mono ?_
    rintro e w' ⟨rfl, rfl⟩
    exact ⟨_, rfl, World.ownsRow_nil _ _ _ _, grownBy_same _ _⟩
  · rw [strs_encStr] at h
    obtain ⟨g, cap, rfl, hb, hg, hnc, hcm, hlen, hH⟩ := Lib.holds_of_ownsRow h hv
    have hc := calls_of_every_depth fun D => AnyS.slices_Compact_string_in Tryd.laysCompact D g 0 cap (l.map keyOf) w hH (by omega) (by omega)
    have hle := Lib.compact_length_le (l.map keyOf)
    have hcl : (compS l).length = (Lib.compact (l.map keyOf)).length := by simp [compS]
    rw [hlen] at hc hle
    refine hc.mono ?_
    rintro e w' ⟨rfl, q, rfl⟩
    refine ⟨_, rfl, ?_, grownBy_put _⟩
    have hr := Lib.ownsRow_putRow (q := q) (k := (Lib.compact (l.map keyOf)).length) (ys := Lib.compact (l.map keyOf) ++ List.replicate (n - (Lib.compact (l.map keyOf)).length) []) h (by simp; omega) (by omega)
    rw [List.take_left] at hr
    rw [strs_encStr, compS_key, hcl]
    exact hr
end Go.Proofs.YtmlomnhjbmocfaaDoor
