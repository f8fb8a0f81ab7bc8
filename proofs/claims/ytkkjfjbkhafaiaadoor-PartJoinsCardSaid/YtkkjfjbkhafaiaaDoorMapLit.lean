/- Map literals with int keys, made and asked in one call: run equations. No program in sight. -/
import Derived.Test.YtkkjfjbkhafaiaaDoorMem
import Derived.Laws.Entries
import Derived.Maps.Own
namespace Go.Proofs.YtkkjfjbkhafaiaaDoor
open Go.RowKit

section
variable {P : Program} {T K E : TypeId}
theorem run_checkKey_int (b : Bool) (n : Nat) (hK : P.underlying K = some (.int .i64)) (k : Int) (w : World) : (Instr.checkKey b (n + 1) K (.int .i64 k)).run P w = .ok () w := by
  simp [Instr.checkKey, run_underlying hK]
theorem run_findKey_int (hK : P.underlying K = some (.int .i64)) (k : Value) (es : List MapEntry) (r : Option (Nat × Value)) (h : Instr.findNow (.int .i64) k es 0 = some r) (w : World) :
    (Instr.findKey K k es).run P w = .ok r w := by
  simp [Instr.findKey, run_underlying hK, h]
theorem run_getObj_map (es : Array MapEntry) (c : Nat) (w : World) : (getObj w.heap.size).run P (w.alloc (.map es c)) = .ok (.map es c) (w.alloc (.map es c)) := by
  have : (w.alloc (.map es c)).heap[w.heap.size]? = some (.map es c) := heap_alloc_new w _
  unfold getObj Sem.run
  rw [this]
  rfl
theorem push_set {α : Type} (a : Array α) (x y : α) : (a.push x).setIfInBounds a.size y = a.push y := by
  apply Array.ext_getElem?
  intro i
  rw [Array.getElem?_setIfInBounds, Array.getElem?_push, Array.getElem?_push]
  by_cases h : a.size = i
  · subst h; simp
  · rw [if_neg h, if_neg (fun e => h e.symm), if_neg (fun e => h e.symm)]
theorem run_setObj_map (es es' : Array MapEntry) (c c' : Nat) (w : World) : (setObj w.heap.size (.map es' c')).run P (w.alloc (.map es c)) = .ok () (w.alloc (.map es' c')) := by
  have : (w.alloc (.map es c)).heap[w.heap.size]? = some (.map es c) := heap_alloc_new w _
  unfold setObj Sem.run
  rw [this]
  show Result.ok () { (w.alloc (.map es c)) with heap := (w.heap.push (.map es c)).setIfInBounds w.heap.size (.map es' c') } = _
  rw [push_set]
  rfl
theorem run_insert_lit (hT : P.underlying T = some (.map K E)) (hK : P.underlying K = some (.int .i64)) (es : Array MapEntry) (c : Nat) (k : Int) (v : Value)
    (hf : Instr.findNow (.int .i64) (.int .i64 k) es.toList 0 = some none) (w : World) :
    (Instr.mapUpdate T (.map (some w.heap.size)) (.int .i64 k) v).run P (w.alloc (.map es c)) = .ok () (w.alloc (.map (es.push { key := .int .i64 k, val := v, born := c }) (c + 1))) := by
  simp [Instr.mapUpdate, run_underlying hT, run_getObj_map, run_checkKey_int false 9999 hK, run_findKey_int hK _ _ _ hf, run_setObj_map]
theorem run_lookup_lit (hT : P.underlying T = some (.map K E)) (hK : P.underlying K = some (.int .i64)) (es : Array MapEntry) (c : Nat) (k : Int) (i : Nat) (v : Value)
    (hf : Instr.findNow (.int .i64) (.int .i64 k) es.toList 0 = some (some (i, v))) (ok : Bool) (w : World) :
    (Instr.lookup T (.map (some w.heap.size)) (.int .i64 k) ok).run P (w.alloc (.map es c)) = .ok (if ok then .tuple #[v, .bool true] else v) (w.alloc (.map es c)) := by
  simp [Instr.lookup, run_underlying hT, run_getObj_map, run_checkKey_int _ 9999 hK, run_findKey_int hK _ _ _ hf]
theorem run_lookup_not (hT : P.underlying T = some (.map K E)) (hK : P.underlying K = some (.int .i64)) (es : Array MapEntry) (c : Nat) (k : Int) (z : Value) (hz : ∀ w, (zeroValue E).run P w = .ok z w)
    (hf : Instr.findNow (.int .i64) (.int .i64 k) es.toList 0 = some none) (ok : Bool) (w : World) :
    (Instr.lookup T (.map (some w.heap.size)) (.int .i64 k) ok).run P (w.alloc (.map es c)) = .ok (if ok then .tuple #[z, .bool false] else z) (w.alloc (.map es c)) := by
  simp [Instr.lookup, run_underlying hT, run_getObj_map, run_checkKey_int _ 9999 hK, run_findKey_int hK _ _ _ hf, hz]
end
end Go.Proofs.YtkkjfjbkhafaiaaDoor
