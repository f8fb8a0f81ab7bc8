/- LkF: texts that belong together. -/
import Derived.Test.YtokiekachlmigaaDoorClone
import Derived.Handy
import Derived.Laws.Entries
import Derived.Lib.AppendZeros
import Derived.Maps.Own
import Derived.Test.YtokiekachlmigaaDoorApp
import Derived.Test.YtokiekachlmigaaDoorBA
import Derived.Test.YtokiekachlmigaaDoorBytesEq
import Derived.Test.YtokiekachlmigaaDoorWideW
set_option linter.all false
/- Map literals with int keys, made and asked in one call: run equations. No program in sight. -/
namespace Go.Proofs.YtokiekachlmigaaDoor
open Go.RowKit

section
variable {P : Program} {T K E : TypeId}
theorem run_checkKey_int (b : Bool) (n : Nat) (hK : P.underlying K = some (.int .i64)) (k : Int) (w : World) : (Instr.checkKey b (n + 1) K (.int .i64 k)).run P w = .ok () w := by
  simp [Instr.checkKey, run_underlying hK]
theorem run_findKey_int (hK : P.underlying K = some (.int .i64)) (k : Value) (es : List MapEntry) (r : Option (Nat × Value)) (h : Instr.findNow (.int .i64) k es 0 = some r) (w : World) :
    (Instr.findKey K k es).run P w = .ok r w := by
  simp [Instr.findKey, run_underlying hK, h]
theorem run_getObj_map (es : Array MapEntry) (c : Nat) (w : World) : (getObj w.heap.size).run P (w.alloc (.map es c)) = .ok (.map es c) (w.alloc (.map es c)) := by
  have : (w.alloc (.map es c)).heap[w.heap.size]? = some (.map es c) := heap_alloc_new w _
  unfold getObj Sem.run
  rw [this]
  rfl
theorem push_set {α : Type} (a : Array α) (x y : α) : (a.push x).setIfInBounds a.size y = a.push y := by
  apply Array.ext_getElem?
  intro i
  rw [Array.getElem?_setIfInBounds, Array.getElem?_push, Array.getElem?_push]
  by_cases h : a.size = i
  · subst h; simp
  · rw [if_neg h, if_neg (fun e => h e.symm), if_neg (fun e => h e.symm)]
theorem run_setObj_map (es es' : Array MapEntry) (c c' : Nat) (w : World) : (setObj w.heap.size (.map es' c')).run P (w.alloc (.map es c)) = .ok () (w.alloc (.map es' c')) := by
  have : (w.alloc (.map es c)).heap[w.heap.size]? = some (.map es c) := heap_alloc_new w _
  unfold setObj Sem.run
  rw [this]
  show Result.ok () { (w.alloc (.map es c)) with heap := (w.heap.push (.map es c)).setIfInBounds w.heap.size (.map es' c') } = _
  rw [push_set]
  rfl
theorem run_insert_lit (hT : P.underlying T = some (.map K E)) (hK : P.underlying K = some (.int .i64)) (es : Array MapEntry) (c : Nat) (k : Int) (v : Value)
    (hf : Instr.findNow (.int .i64) (.int .i64 k) es.toList 0 = some none) (w : World) :
    (Instr.mapUpdate T (.map (some w.heap.size)) (.int .i64 k) v).run P (w.alloc (.map es c)) = .ok () (w.alloc (.map (es.push { key := .int .i64 k, val := v, born := c }) (c + 1))) := by
  simp [Instr.mapUpdate, run_underlying hT, run_getObj_map, run_checkKey_int false 9999 hK, run_findKey_int hK _ _ _ hf, run_setObj_map]
theorem run_lookup_lit (hT : P.underlying T = some (.map K E)) (hK : P.underlying K = some (.int .i64)) (es : Array MapEntry) (c : Nat) (k : Int) (i : Nat) (v : Value)
    (hf : Instr.findNow (.int .i64) (.int .i64 k) es.toList 0 = some (some (i, v))) (ok : Bool) (w : World) :
    (Instr.lookup T (.map (some w.heap.size)) (.int .i64 k) ok).run P (w.alloc (.map es c)) = .ok (if ok then .tuple #[v, .bool true] else v) (w.alloc (.map es c)) := by
  simp [Instr.lookup, run_underlying hT, run_getObj_map, run_checkKey_int _ 9999 hK, run_findKey_int hK _ _ _ hf]
theorem run_lookup_not (hT : P.underlying T = some (.map K E)) (hK : P.underlying K = some (.int .i64)) (es : Array MapEntry) (c : Nat) (k : Int) (z : Value) (hz : ∀ w, (zeroValue E).run P w = .ok z w)
    (hf : Instr.findNow (.int .i64) (.int .i64 k) es.toList 0 = some none) (ok : Bool) (w : World) :
    (Instr.lookup T (.map (some w.heap.size)) (.int .i64 k) ok).run P (w.alloc (.map es c)) = .ok (if ok then .tuple #[z, .bool false] else z) (w.alloc (.map es c)) := by
  simp [Instr.lookup, run_underlying hT, run_getObj_map, run_checkKey_int _ 9999 hK, run_findKey_int hK _ _ _ hf, hz]
end
end Go.Proofs.YtokiekachlmigaaDoor

/- fill.Range, fill.Value, obj.Wide: what they compute. -/
namespace Go.Proofs.YtokiekachlmigaaDoor
open Go.RowKit

end Go.Proofs.YtokiekachlmigaaDoor

/- slices.Grow of nothing, slices.Concat, at bytes and at ints. -/
namespace Go.Proofs.YtokiekachlmigaaDoor
open Go.RowKit

def catBytes (ss : List (SliceIn UInt8)) : List UInt8 := ss.flatMap SliceIn.l
theorem catBytes_len (ss : List (SliceIn UInt8)) (k : Nat) : (catBytes (ss.take k)).length ≤ (catBytes ss).length := by
  have : catBytes ss = catBytes (ss.take k) ++ catBytes (ss.drop k) := by unfold catBytes; rw [← List.flatMap_append, List.take_append_drop]
  rw [this, List.length_append]; omega
theorem catBytes_snoc (ss : List (SliceIn UInt8)) (k : Nat) (s : SliceIn UInt8) (h : ss[k]? = some s) : catBytes (ss.take (k + 1)) = catBytes (ss.take k) ++ s.l := by
  have hk : k < ss.length := (List.getElem?_eq_some_iff.1 h).1
  have hs : ss[k] = s := (List.getElem?_eq_some_iff.1 h).2
  unfold catBytes
  rw [List.take_succ_eq_append_getElem hk, List.flatMap_append, hs]; simp

end Go.Proofs.YtokiekachlmigaaDoor

namespace Go.Proofs.YtokiekachlmigaaDoor
open Go.RowKit

theorem bytes_one (l : List UInt8) : ∀ u ∈ bytesV l, u.oneCell' = true := by
  intro u hu; simp only [bytesV, List.mem_map] at hu; obtain ⟨x, _, rfl⟩ := hu; rfl

end Go.Proofs.YtokiekachlmigaaDoor

/- What is put is got, and all else is as it was: the plain law. No program in sight. -/
namespace Go.Proofs.YtokiekachlmigaaDoor

theorem kind_facts {k : Int} (h : leastOf k ≤ mostOf k) : (leastOf k = 0 ∧ mostOf k = 255 ∧ wideOf k = 1) ∨ (leastOf k = 0 ∧ mostOf k = 65535 ∧ wideOf k = 2) ∨ (leastOf k = -128 ∧ mostOf k = 127 ∧ wideOf k = 1) ∨ (leastOf k = -32768 ∧ mostOf k = 32767 ∧ wideOf k = 2) := by
  rcases least_le k h with rfl | rfl | rfl | rfl <;> decide

theorem getD_set_same (b : List UInt8) (p : Nat) (x : UInt8) (h : p < b.length) : (b.set p x).getD p 0 = x := by simp [h]
theorem getD_set_ne (b : List UInt8) (p q : Nat) (x : UInt8) (h : p ≠ q) : (b.set p x).getD q 0 = b.getD q 0 := by simp [List.getElem?_set_ne h]
theorem byte_lt (b : List UInt8) (p : Nat) : 0 ≤ ((b.getD p 0).toNat : Int) ∧ ((b.getD p 0).toNat : Int) ≤ 255 := by have := (b.getD p 0).toNat_lt; omega
theorem byteN_of (b : List UInt8) (p : Nat) (m : Int) (h : m % 256 = ((b.getD p 0).toNat : Int)) : byteN m = b.getD p 0 := by
  apply UInt8.toNat.inj
  have := byteN_toNat m
  omega
theorem set_getD (b : List UInt8) (p : Nat) (h : p < b.length) : b.set p (b.getD p 0) = b := by
  rw [List.getD_eq_getElem?_getD, List.getElem?_eq_getElem h]; simp

section
variable {k : Int} {b : List UInt8} {p : Nat}
theorem get_put (hk : leastOf k ≤ mostOf k) {n : Int} (h0 : leastOf k ≤ n) (h1 : n ≤ mostOf k) (hp : (p : Int) ≤ b.length - wideOf k) : signed k (getB (putB b p k n) p k) = n := by
  have e0 := byteN_toNat n
  have e1 := byteN_toNat (n / 256)
  rcases kind_facts hk with ⟨a1, a2, a3⟩ | ⟨a1, a2, a3⟩ | ⟨a1, a2, a3⟩ | ⟨a1, a2, a3⟩
  all_goals
    unfold signed getB putB
    simp only [a2, a3]
    rw [a1] at h0
    rw [a2] at h1
    rw [a3] at hp
  · simp only [if_neg (show ¬ (1 : Int) = 2 by decide)]
    rw [getD_set_same _ _ _ (by omega), e0]
    split <;> omega
  · simp only [if_true]
    rw [getD_set_ne _ _ _ _ (by omega), getD_set_same _ _ _ (by omega), getD_set_same _ _ _ (by simp; omega), e0, e1]
    split <;> omega
  · simp only [if_neg (show ¬ (1 : Int) = 2 by decide)]
    rw [getD_set_same _ _ _ (by omega), e0]
    split <;> omega
  · simp only [if_true]
    rw [getD_set_ne _ _ _ _ (by omega), getD_set_same _ _ _ (by omega), getD_set_same _ _ _ (by simp; omega), e0, e1]
    split <;> omega
theorem signed_want (hk : leastOf k ≤ mostOf k) (b : List UInt8) (p : Nat) : signed k (getB b p k) = if mostOf k < getB b p k then getB b p k + 2 * leastOf k else getB b p k := by
  obtain ⟨x0, x1⟩ := byte_lt b p
  obtain ⟨y0, y1⟩ := byte_lt b (p + 1)
  rcases kind_facts hk with ⟨a1, a2, a3⟩ | ⟨a1, a2, a3⟩ | ⟨a1, a2, a3⟩ | ⟨a1, a2, a3⟩
  all_goals
    unfold signed getB
    simp only [a1, a2, a3]
    simp only [if_true, if_neg (show ¬ (1 : Int) = 2 by decide)]
    split <;> omega
theorem getB_one (hw : wideOf k = 1) (b : List UInt8) (p : Nat) (h : p < b.length) : getB b p k = ((b[p]).toNat : Int) := by
  unfold getB; rw [if_neg (by omega), List.getD_eq_getElem?_getD, List.getElem?_eq_getElem h]; rfl
theorem getB_two (hw : wideOf k = 2) (b : List UInt8) (p : Nat) (h : p + 1 < b.length) : getB b p k = ((b[p]'(by omega)).toNat : Int) + 256 * ((b[p + 1]).toNat : Int) := by
  unfold getB; rw [if_pos hw, List.getD_eq_getElem?_getD, List.getElem?_eq_getElem (by omega), List.getD_eq_getElem?_getD, List.getElem?_eq_getElem h]; rfl
theorem get_range (hk : leastOf k ≤ mostOf k) (b : List UInt8) (p : Nat) : leastOf k ≤ signed k (getB b p k) ∧ signed k (getB b p k) ≤ mostOf k := by
  obtain ⟨x0, x1⟩ := byte_lt b p
  obtain ⟨y0, y1⟩ := byte_lt b (p + 1)
  rcases kind_facts hk with ⟨a1, a2, a3⟩ | ⟨a1, a2, a3⟩ | ⟨a1, a2, a3⟩ | ⟨a1, a2, a3⟩
  all_goals
    unfold signed getB
    simp only [a1, a2, a3]
    simp only [if_true, if_neg (show ¬ (1 : Int) = 2 by decide)]
    split <;> omega
theorem put_back (hk : leastOf k ≤ mostOf k) {n : Int} (hp : (p : Int) ≤ b.length - wideOf k) : putB (putB b p k n) p k (signed k (getB b p k)) = b := by
  obtain ⟨x0, x1⟩ := byte_lt b p
  obtain ⟨y0, y1⟩ := byte_lt b (p + 1)
  have one : wideOf k = 1 → signed k (getB b p k) % 256 = ((b.getD p 0).toNat : Int) := fun h => by
    unfold signed getB
    simp only [if_neg (show ¬ wideOf k = 2 by omega)]
    split <;> omega
  have two : wideOf k = 2 → signed k (getB b p k) % 256 = ((b.getD p 0).toNat : Int) ∧ signed k (getB b p k) / 256 % 256 = ((b.getD (p + 1) 0).toNat : Int) := fun h => by
    unfold signed getB
    simp only [if_pos h]
    constructor <;> split <;> omega
  rcases wide_or hk with hw | hw
  · have hb := byteN_of b p _ (one hw)
    unfold putB
    rw [if_neg (by omega), if_neg (by omega), hb, List.set_set, set_getD _ _ (by omega)]
  · have hb := byteN_of b p _ (two hw).1
    have hb2 := byteN_of b (p + 1) _ (two hw).2
    unfold putB
    rw [if_pos hw, if_pos hw, hb, hb2]
    rw [List.set_comm _ _ (show p + 1 ≠ p by omega), List.set_set, List.set_set, set_getD _ _ (by omega), set_getD _ _ (by omega)]
theorem put_else {n : Int} {i : Nat} (h : i < p ∨ p + wideOf k ≤ (i : Int)) (hw : 1 ≤ wideOf k) : (putB b p k n)[i]? = b[i]? := by
  unfold putB
  split
  · rw [List.getElem?_set_ne (by omega), List.getElem?_set_ne (by omega)]
  · rw [List.getElem?_set_ne (by omega)]
theorem putRes_ok {a n : Int} (h : (putRes b a k n).2 = 0) : leastOf k ≤ mostOf k ∧ (b.length : Int) ≤ 65536 ∧ 0 ≤ a ∧ a ≤ b.length - wideOf k ∧ leastOf k ≤ n ∧ n ≤ mostOf k ∧ putRes b a k n = (putB b a.toNat k n, 0) := by
  rcases Int.lt_or_le (mostOf k) (leastOf k) with h0 | h0
  · rw [putRes_kind h0] at h; simp at h
  rcases Int.lt_or_le 65536 (b.length : Int) with h1 | h1
  · rw [putRes_many h0 h1] at h; simp at h
  by_cases h2 : a < 0 ∨ (b.length : Int) - wideOf k < a
  · rw [putRes_who h0 h1 h2] at h; simp at h
  by_cases h4 : n < leastOf k ∨ mostOf k < n
  · rw [putRes_over h0 h1 (by omega) (by omega) h4] at h; simp at h
  exact ⟨h0, h1, by omega, by omega, by omega, by omega, putRes_fits h0 h1 (by omega) (by omega) (by omega) (by omega)⟩
end
end Go.Proofs.YtokiekachlmigaaDoor
