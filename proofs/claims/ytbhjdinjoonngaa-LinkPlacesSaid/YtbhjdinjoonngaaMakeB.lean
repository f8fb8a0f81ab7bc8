/- make([]bool, n). -/
import Derived.Test.YtbhjdinjoonngaaMakeN
import Derived.Test.YtbhjdinjoonngaaWalk
set_option linter.all false
namespace Go.Proofs.Ytbhjdinjoonngaa
open Go.RowKit

theorem Try.infoBoolB : (Try.prog.info? 4).map (fun i => (i.zero, i.size, i.bytes)) = some (some (.bool false), 1, 1) := by kernel_rfl
set_option maxRecDepth 100000 in
theorem make_boolB (n : Nat) (hn : n ≤ 1000000) (w : World) :
    (Instr.makeSlice 24 (.int .i64 (n : Int)) (.int .i64 (n : Int))).run Try.prog w = .ok (.slice (some ⟨w.heap.size, 0, none⟩) n n) (w.alloc (.cells (boolsV (List.replicate n false)).toArray 4)) := by
  obtain ⟨i0, hi, hz0, hz1, hz2⟩ := info_parts Try.infoBoolB
  rw [run_make_one 24 4 i0 (.bool false) Try.underlying24 hi hz0 hz1 rfl 1 hz2 n hn (by omega) w]
  congr 4
  unfold boolsV
  apply List.ext_getElem?
  intro j
  rcases Nat.lt_or_ge j n with hj | hj
  · simp [hj]
  · simp [hj]
theorem boolsB_get {l : List Bool} {k : Nat} {b : Bool} (h : l[k]? = some b) : (boolsV l).toArray[k]? = some (.bool b) := by
  rw [List.getElem?_toArray]; unfold boolsV; rw [List.getElem?_map, h]; rfl
theorem boolsB_set (l : List Bool) (k : Nat) (b : Bool) : (boolsV l).toArray.setIfInBounds k (.bool b) = (boolsV (l.set k b)).toArray := by
  rw [List.setIfInBounds_toArray]
  unfold boolsV
  rw [List.map_set]
end Go.Proofs.Ytbhjdinjoonngaa
