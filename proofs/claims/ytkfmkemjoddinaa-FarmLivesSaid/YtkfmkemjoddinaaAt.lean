/- ropewalklaw.at: a number brought within bounds. -/
import Derived.Test.YtkfmkemjoddinaaWalk
set_option linter.all false
namespace Go.Proofs.Ytkfmkemjoddinaa
open Go.RowKit

set_option maxHeartbeats 1000000 in
theorem at_any (k n : Int) (w : World) (h0 : 0 < n) (h1 : n ≤ 1000000) (hk0 : -9223372036854775808 ≤ k) (hk1 : k ≤ 9223372036854775807) :
    Calls Try.prog 13 #[.int .i64 k, .int .i64 n] w fun e w' => e = .returned (.int .i64 (k % n)) ∧ w' = w := by
  obtain ⟨b0, b1⟩ := tmod_bounds k n h0
  have HE := Lib.hid (emod_of_tmod k n h0)
  have hne : (n == 0) = false := by simp; omega
  rcases Int.lt_or_le (k.tmod n) 0 with hneg | hpos
  · go_enter Try.func13, Try.ntmps13
    go_wp2
    go_ret
    exact ⟨ret_int (by rw [HE.out, if_pos hneg]), rfl⟩
  · go_enter Try.func13, Try.ntmps13
    go_wp2
    go_ret
    exact ⟨ret_int (by rw [HE.out, if_neg (by omega)]), rfl⟩
end Go.Proofs.Ytkfmkemjoddinaa
