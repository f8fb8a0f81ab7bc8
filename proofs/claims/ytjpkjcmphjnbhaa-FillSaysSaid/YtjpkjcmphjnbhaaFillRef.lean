/- ropewalkref.WideOf, Bounds, ValueOf: what they compute. -/
import Derived.Test.YtjpkjcmphjnbhaaFillW
namespace Go.Proofs.Ytjpkjcmphjnbhaa
open Go.RowKit

def me (k : Int) (v : Value) (n : Nat) : MapEntry := { key := .int .i64 k, val := v, born := n }
def vi (n : Int) : Value := .int .i64 n
def wideEs : Array MapEntry := #[me 1 (vi 1) 0, me 2 (vi 2) 1, me 3 (vi 1) 2, me 4 (vi 2) 3]
def pr (x y : Int) : Value := .agg #[.int .i64 x, .int .i64 y]
def boundEs : Array MapEntry := #[me 1 (pr 0 255) 0, me 2 (pr 0 65535) 1, me 3 (pr (-128) 127) 2, me 4 (pr (-32768) 32767) 3]

section
variable (w : World)
theorem wide_i1 : (Instr.mapUpdate 74 (.map (some w.heap.size)) (.int .i64 1) (.int .i64 1)).run Try.prog (w.alloc (.map #[] 0)) = .ok () (w.alloc (.map #[me 1 (vi 1) 0] 1)) :=
  run_insert_lit Try.underlying74 Try.underlying3 #[] 0 1 (vi 1) rfl w
theorem wide_i2 : (Instr.mapUpdate 74 (.map (some w.heap.size)) (.int .i64 2) (.int .i64 2)).run Try.prog (w.alloc (.map #[me 1 (vi 1) 0] 1)) = .ok () (w.alloc (.map #[me 1 (vi 1) 0, me 2 (vi 2) 1] 2)) :=
  run_insert_lit Try.underlying74 Try.underlying3 _ 1 2 (vi 2) rfl w
theorem wide_i3 : (Instr.mapUpdate 74 (.map (some w.heap.size)) (.int .i64 3) (.int .i64 1)).run Try.prog (w.alloc (.map #[me 1 (vi 1) 0, me 2 (vi 2) 1] 2)) = .ok () (w.alloc (.map #[me 1 (vi 1) 0, me 2 (vi 2) 1, me 3 (vi 1) 2] 3)) :=
  run_insert_lit Try.underlying74 Try.underlying3 _ 2 3 (vi 1) rfl w
theorem wide_i4 : (Instr.mapUpdate 74 (.map (some w.heap.size)) (.int .i64 4) (.int .i64 2)).run Try.prog (w.alloc (.map #[me 1 (vi 1) 0, me 2 (vi 2) 1, me 3 (vi 1) 2] 3)) = .ok () (w.alloc (.map wideEs 4)) :=
  run_insert_lit Try.underlying74 Try.underlying3 _ 3 4 (vi 2) rfl w
theorem bound_i1 : (Instr.mapUpdate 72 (.map (some w.heap.size)) (.int .i64 1) (.agg #[.int .i64 0, .int .i64 255])).run Try.prog (w.alloc (.map #[] 0)) = .ok () (w.alloc (.map #[me 1 (pr 0 255) 0] 1)) :=
  run_insert_lit Try.underlying72 Try.underlying3 #[] 0 1 (pr 0 255) rfl w
theorem bound_i2 : (Instr.mapUpdate 72 (.map (some w.heap.size)) (.int .i64 2) (.agg #[.int .i64 0, .int .i64 65535])).run Try.prog (w.alloc (.map #[me 1 (pr 0 255) 0] 1)) = .ok () (w.alloc (.map #[me 1 (pr 0 255) 0, me 2 (pr 0 65535) 1] 2)) :=
  run_insert_lit Try.underlying72 Try.underlying3 _ 1 2 (pr 0 65535) rfl w
theorem bound_i3 : (Instr.mapUpdate 72 (.map (some w.heap.size)) (.int .i64 3) (.agg #[.int .i64 (-128), .int .i64 127])).run Try.prog (w.alloc (.map #[me 1 (pr 0 255) 0, me 2 (pr 0 65535) 1] 2)) = .ok () (w.alloc (.map #[me 1 (pr 0 255) 0, me 2 (pr 0 65535) 1, me 3 (pr (-128) 127) 2] 3)) :=
  run_insert_lit Try.underlying72 Try.underlying3 _ 2 3 (pr (-128) 127) rfl w
theorem bound_i4 : (Instr.mapUpdate 72 (.map (some w.heap.size)) (.int .i64 4) (.agg #[.int .i64 (-32768), .int .i64 32767])).run Try.prog (w.alloc (.map #[me 1 (pr 0 255) 0, me 2 (pr 0 65535) 1, me 3 (pr (-128) 127) 2] 3)) = .ok () (w.alloc (.map boundEs 4)) :=
  run_insert_lit Try.underlying72 Try.underlying3 _ 3 4 (pr (-32768) 32767) rfl w
end

theorem find_not {k : Int} {a b c d : Value} (h1 : k ≠ 1) (h2 : k ≠ 2) (h3 : k ≠ 3) (h4 : k ≠ 4) : Instr.findNow (.int .i64) (.int .i64 k) [me 1 a 0, me 2 b 1, me 3 c 2, me 4 d 3] 0 = some none := by
  have b1 : (k == 1) = false := by simpa using h1
  have b2 : (k == 2) = false := by simpa using h2
  have b3 : (k == 3) = false := by simpa using h3
  have b4 : (k == 4) = false := by simpa using h4
  simp [me, Instr.findNow, Instr.sameNow, b1, b2, b3, b4]
theorem zero_int (w : World) : (zeroValue 3).run Try.prog w = .ok (.int .i64 0) w := by kernel_rfl
theorem zero_pair (w : World) : (zeroValue 71).run Try.prog w = .ok (.agg #[.int .i64 0, .int .i64 0]) w := by kernel_rfl

theorem wide_look (k : Int) (w : World) : (Instr.lookup 74 (.map (some w.heap.size)) (.int .i64 k) false).run Try.prog (w.alloc (.map wideEs 4)) = .ok (.int .i64 (wideOf k)) (w.alloc (.map wideEs 4)) := by
  rcases kinds_split k with rfl | rfl | rfl | rfl | ⟨h1, h2, h3, h4⟩
  · exact run_lookup_lit Try.underlying74 Try.underlying3 wideEs 4 1 0 (vi 1) rfl false w
  · exact run_lookup_lit Try.underlying74 Try.underlying3 wideEs 4 2 1 (vi 2) rfl false w
  · exact run_lookup_lit Try.underlying74 Try.underlying3 wideEs 4 3 2 (vi 1) rfl false w
  · exact run_lookup_lit Try.underlying74 Try.underlying3 wideEs 4 4 3 (vi 2) rfl false w
  · rw [show wideOf k = 0 by simp [wideOf, h1, h2, h3, h4]]
    exact run_lookup_not Try.underlying74 Try.underlying3 wideEs 4 k _ zero_int (by rw [show wideEs.toList = [me 1 (vi 1) 0, me 2 (vi 2) 1, me 3 (vi 1) 2, me 4 (vi 2) 3] from rfl]; exact find_not h1 h2 h3 h4) false w
theorem bound_look (k : Int) (h : leastOf k ≤ mostOf k) (w : World) : (Instr.lookup 72 (.map (some w.heap.size)) (.int .i64 k) true).run Try.prog (w.alloc (.map boundEs 4)) = .ok (.tuple #[.agg #[.int .i64 (leastOf k), .int .i64 (mostOf k)], .bool true]) (w.alloc (.map boundEs 4)) := by
  rcases least_le k h with rfl | rfl | rfl | rfl
  · exact run_lookup_lit Try.underlying72 Try.underlying3 boundEs 4 1 0 (pr 0 255) rfl true w
  · exact run_lookup_lit Try.underlying72 Try.underlying3 boundEs 4 2 1 (pr 0 65535) rfl true w
  · exact run_lookup_lit Try.underlying72 Try.underlying3 boundEs 4 3 2 (pr (-128) 127) rfl true w
  · exact run_lookup_lit Try.underlying72 Try.underlying3 boundEs 4 4 3 (pr (-32768) 32767) rfl true w
theorem not_kind {k : Int} (h : mostOf k < leastOf k) : k ≠ 1 ∧ k ≠ 2 ∧ k ≠ 3 ∧ k ≠ 4 ∧ leastOf k = 1 ∧ mostOf k = 0 := by
  rcases kinds_split k with rfl | rfl | rfl | rfl | ⟨h1, h2, h3, h4⟩
  · exact absurd h (by decide)
  · exact absurd h (by decide)
  · exact absurd h (by decide)
  · exact absurd h (by decide)
  · exact ⟨h1, h2, h3, h4, by simp [leastOf, h1, h2, h3, h4], by simp [mostOf, h1, h2, h3, h4]⟩
theorem bound_not (k : Int) (h : mostOf k < leastOf k) (w : World) : (Instr.lookup 72 (.map (some w.heap.size)) (.int .i64 k) true).run Try.prog (w.alloc (.map boundEs 4)) = .ok (.tuple #[.agg #[.int .i64 0, .int .i64 0], .bool false]) (w.alloc (.map boundEs 4)) := by
  obtain ⟨h1, h2, h3, h4, _⟩ := not_kind h
  exact run_lookup_not Try.underlying72 Try.underlying3 boundEs 4 k _ zero_pair (by exact find_not h1 h2 h3 h4) true w

set_option maxHeartbeats 400000 in
theorem wideOf_any (k : Int) (w : World) :
    Calls Try.prog 28 #[.int .i64 k] w fun e w' => e = .returned (.int .i64 (wideOf k)) ∧ Below w.heap.size w w' := by
  have hmm := @run_makeMap Try.prog
  have i1 := wide_i1 w
  have i2 := wide_i2 w
  have i3 := wide_i3 w
  have i4 := wide_i4 w
  have i5 := wide_look k w
  go_enter Try.func28, Try.ntmps28
  go_wp2
  go_ret
  exact ⟨rfl, by (repeat' (first | exact Below.refl _ _ | assumption | refine Below.setCell ?_ (by first | omega | exact Below.size (by assumption) | (simp; done) | (simp; omega)) _ | refine Below.alloc ?_ (by first | omega | exact Below.size (by assumption) | (simp; done) | (simp; omega)) _ | refine Below.drew ?_ | refine below_drewN ?_ _))⟩

set_option maxHeartbeats 400000 in
theorem bounds_any (k : Int) (w : World) :
    Calls Try.prog 25 #[.int .i64 k] w fun e w' => e = .returned (.tuple #[.int .i64 (leastOf k), .int .i64 (mostOf k)]) ∧ Below w.heap.size w w' := by
  have hmm := @run_makeMap Try.prog
  have i1 := bound_i1 w
  have i2 := bound_i2 w
  have i3 := bound_i3 w
  have i4 := bound_i4 w
  rcases Int.lt_or_le (mostOf k) (leastOf k) with h0 | h0
  · have i5 := bound_not k h0 w
    obtain ⟨_, _, _, _, e1, e2⟩ := not_kind h0
    have E1 := Lib.hid e1
    have E2 := Lib.hid e2
    clear e1 e2 h0
    go_enter Try.func25, Try.ntmps25
    go_wp2
    go_ret2
    exact ⟨ret_val (by rw [E1.out, E2.out]; rfl), by (repeat' (first | exact Below.refl _ _ | assumption | refine Below.setCell ?_ (by first | omega | exact Below.size (by assumption) | (simp; done) | (simp; omega)) _ | refine Below.alloc ?_ (by first | omega | exact Below.size (by assumption) | (simp; done) | (simp; omega)) _ | refine Below.drew ?_ | refine below_drewN ?_ _))⟩
  · have i5 := bound_look k h0 w
    go_enter Try.func25, Try.ntmps25
    go_wp2
    go_quiet (fail)
    go_wp2
    go_ret2
    exact ⟨rfl, by (repeat' (first | exact Below.refl _ _ | assumption | refine Below.setCell ?_ (by first | omega | exact Below.size (by assumption) | (simp; done) | (simp; omega)) _ | refine Below.alloc ?_ (by first | omega | exact Below.size (by assumption) | (simp; done) | (simp; omega)) _ | refine Below.drew ?_ | refine below_drewN ?_ _))⟩
end Go.Proofs.Ytjpkjcmphjnbhaa
