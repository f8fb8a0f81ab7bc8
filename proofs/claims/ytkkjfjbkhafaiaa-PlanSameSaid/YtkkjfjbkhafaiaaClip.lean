/- slices.Clip at ints. -/
import Derived.Test.YtkkjfjbkhafaiaaWalk
namespace Go.Proofs.Ytkkjfjbkhafaiaa
open Go.RowKit

set_option maxHeartbeats 1000000 in
theorem clip_any (A : Option Addr) (n c : Nat) (xs : List Value) (w : World) (h : Reads w w.heap.size 1 A n xs) (hc : n ≤ c) :
    Calls Try.prog 44 #[.slice A n c] w fun e w' => e = .returned (.slice A n n) ∧ w = w' := by
  go_enter Try.func44, Try.ntmps44
  go_wp2
  go_ret
  exact ⟨rfl, rfl⟩
end Go.Proofs.Ytkkjfjbkhafaiaa
