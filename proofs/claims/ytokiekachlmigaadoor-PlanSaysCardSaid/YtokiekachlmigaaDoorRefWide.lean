/- ropewalkref.WideOf: what it computes. -/
import Derived.Test.YtokiekachlmigaaDoorBA
import Derived.Test.YtokiekachlmigaaDoorLkF
import Derived.Test.YtokiekachlmigaaDoorWalk
import Derived.Maps.Own
set_option linter.all false
namespace Go.Proofs.YtokiekachlmigaaDoor
open Go.RowKit

def me (k : Int) (v : Value) (n : Nat) : MapEntry := { key := .int .i64 k, val := v, born := n }
def vi (n : Int) : Value := .int .i64 n
def wideEs : Array MapEntry := #[me 1 (vi 1) 0, me 2 (vi 2) 1, me 3 (vi 1) 2, me 4 (vi 2) 3]

section
variable (w : World)
theorem wide_i1 : (Instr.mapUpdate 203 (.map (some w.heap.size)) (.int .i64 1) (.int .i64 1)).run Tryd.prog (w.alloc (.map #[] 0)) = .ok () (w.alloc (.map #[me 1 (vi 1) 0] 1)) :=
  run_insert_lit Tryd.underlying203 Tryd.underlying3 #[] 0 1 (vi 1) rfl w
theorem wide_i2 : (Instr.mapUpdate 203 (.map (some w.heap.size)) (.int .i64 2) (.int .i64 2)).run Tryd.prog (w.alloc (.map #[me 1 (vi 1) 0] 1)) = .ok () (w.alloc (.map #[me 1 (vi 1) 0, me 2 (vi 2) 1] 2)) :=
  run_insert_lit Tryd.underlying203 Tryd.underlying3 _ 1 2 (vi 2) rfl w
theorem wide_i3 : (Instr.mapUpdate 203 (.map (some w.heap.size)) (.int .i64 3) (.int .i64 1)).run Tryd.prog (w.alloc (.map #[me 1 (vi 1) 0, me 2 (vi 2) 1] 2)) = .ok () (w.alloc (.map #[me 1 (vi 1) 0, me 2 (vi 2) 1, me 3 (vi 1) 2] 3)) :=
  run_insert_lit Tryd.underlying203 Tryd.underlying3 _ 2 3 (vi 1) rfl w
theorem wide_i4 : (Instr.mapUpdate 203 (.map (some w.heap.size)) (.int .i64 4) (.int .i64 2)).run Tryd.prog (w.alloc (.map #[me 1 (vi 1) 0, me 2 (vi 2) 1, me 3 (vi 1) 2] 3)) = .ok () (w.alloc (.map wideEs 4)) :=
  run_insert_lit Tryd.underlying203 Tryd.underlying3 _ 3 4 (vi 2) rfl w
end

theorem find_not {k : Int} {a b c d : Value} (h1 : k ≠ 1) (h2 : k ≠ 2) (h3 : k ≠ 3) (h4 : k ≠ 4) : Instr.findNow (.int .i64) (.int .i64 k) [me 1 a 0, me 2 b 1, me 3 c 2, me 4 d 3] 0 = some none := by
  have b1 : (k == 1) = false := by simpa using h1
  have b2 : (k == 2) = false := by simpa using h2
  have b3 : (k == 3) = false := by simpa using h3
  have b4 : (k == 4) = false := by simpa using h4
  simp [me, Instr.findNow, Instr.sameNow, b1, b2, b3, b4]
theorem zero_int (w : World) : (zeroValue 3).run Tryd.prog w = .ok (.int .i64 0) w := by kernel_rfl

theorem wide_look (k : Int) (w : World) : (Instr.lookup 203 (.map (some w.heap.size)) (.int .i64 k) false).run Tryd.prog (w.alloc (.map wideEs 4)) = .ok (.int .i64 (wideOf k)) (w.alloc (.map wideEs 4)) := by
  rcases kinds_split k with rfl | rfl | rfl | rfl | ⟨h1, h2, h3, h4⟩
  · exact run_lookup_lit Tryd.underlying203 Tryd.underlying3 wideEs 4 1 0 (vi 1) rfl false w
  · exact run_lookup_lit Tryd.underlying203 Tryd.underlying3 wideEs 4 2 1 (vi 2) rfl false w
  · exact run_lookup_lit Tryd.underlying203 Tryd.underlying3 wideEs 4 3 2 (vi 1) rfl false w
  · exact run_lookup_lit Tryd.underlying203 Tryd.underlying3 wideEs 4 4 3 (vi 2) rfl false w
  · rw [show wideOf k = 0 by simp [wideOf, h1, h2, h3, h4]]
    exact run_lookup_not Tryd.underlying203 Tryd.underlying3 wideEs 4 k _ zero_int (by rw [show wideEs.toList = [me 1 (vi 1) 0, me 2 (vi 2) 1, me 3 (vi 1) 2, me 4 (vi 2) 3] from rfl]; exact find_not h1 h2 h3 h4) false w

set_option maxHeartbeats 400000 in
theorem wideOf_any (k : Int) (w : World) :
    Calls Tryd.prog 112 #[.int .i64 k] w fun e w' => e = .returned (.int .i64 (wideOf k)) ∧ Below w.heap.size w w' := by
  have hmm := @run_makeMap Tryd.prog
  have i1 := wide_i1 w
  have i2 := wide_i2 w
  have i3 := wide_i3 w
  have i4 := wide_i4 w
  have i5 := wide_look k w
  go_enter Tryd.func112, Tryd.ntmps112
  go_wp2
  go_ret
  exact ⟨rfl, by (repeat' (first | exact Below.refl _ _ | assumption | refine Below.setCell ?_ (by first | omega | exact Below.size (by assumption) | (simp; done) | (simp; omega)) _ | refine Below.alloc ?_ (by first | omega | exact Below.size (by assumption) | (simp; done) | (simp; omega)) _ | refine Below.drew ?_ | refine below_drewN ?_ _))⟩

end Go.Proofs.YtokiekachlmigaaDoor
