/- layout.up: what it computes. -/
import Derived.Test.YtbhjdinjoonngaaWalk
set_option linter.all false
namespace Go.Proofs.Ytbhjdinjoonngaa
open Go.RowKit

/-- Up to the next address that is aligned. -/
def upN (a n : Nat) : Nat := (a + n - 1) / n * n
set_option maxHeartbeats 1000000 in
theorem up_any (a n : Nat) (w : World) (ha : a ≤ 1000000) (hn : 0 < n) (hn2 : n ≤ 1000) : Calls Try.prog 103 #[.int .i64 a, .int .i64 n] w fun e w' => e = .returned (.int .i64 (upN a n)) ∧ w' = w := by
  have h1 : (a + n - 1) / n * n ≤ a + n := Nat.le_trans (Nat.div_mul_le_self _ _) (by omega)
  go_enter Try.func103, Try.ntmps103
  go_wp2
  go_ret
  have e : (((a : Int) + (n : Int) - 1) / (n : Int) * (n : Int)) = ((upN a n : Nat) : Int) := by
    unfold upN
    rw [show ((a : Int) + (n : Int) - 1) = ((a + n - 1 : Nat) : Int) by omega]
    simp only [Int.natCast_mul, Int.natCast_ediv]
  have e2 : upN a n ≤ a + n := h1
  refine ⟨?_, rfl⟩
  show Ending.returned (Value.int .i64 (wrap64 _)) = _
  have e3 : wrap64 ((upN a n : Nat) : Int) = ((upN a n : Nat) : Int) := by unfold wrap64; omega
  rw [e, e3]
end Go.Proofs.Ytbhjdinjoonngaa
