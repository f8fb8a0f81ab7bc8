/- obj.Wide: what it computes. -/
import Derived.Test.YtokiekachlmigaaDoorBA
import Derived.Test.YtokiekachlmigaaDoorWalk
set_option linter.all false
namespace Go.Proofs.YtokiekachlmigaaDoor
open Go.RowKit

set_option maxHeartbeats 400000 in
theorem wide_any (k : Int) (w : World) :
    Calls Tryd.prog 143 #[.int .i64 k] w fun e w' => e = .returned (.int .i64 (wideOf k)) ∧ w = w' := by
  rcases kinds_split k with rfl | rfl | rfl | rfl | ⟨h1, h2, h3, h4⟩
  · go_enter Tryd.func143, Tryd.ntmps143
    go_wp2
    go_ret
    exact ⟨rfl, rfl⟩
  · go_enter Tryd.func143, Tryd.ntmps143
    go_wp2
    go_ret
    exact ⟨rfl, rfl⟩
  · go_enter Tryd.func143, Tryd.ntmps143
    go_wp2
    go_ret
    exact ⟨rfl, rfl⟩
  · go_enter Tryd.func143, Tryd.ntmps143
    go_wp2
    go_ret
    exact ⟨rfl, rfl⟩
  · have b1 : (k == 1) = false := by simpa using h1
    have b2 : (k == 2) = false := by simpa using h2
    have b3 : (k == 3) = false := by simpa using h3
    have b4 : (k == 4) = false := by simpa using h4
    have e1 : wideOf k = 0 := by simp [wideOf, h1, h2, h3, h4]
    have E1 := Lib.hid e1
    clear e1 h1 h2 h3 h4
    go_enter Tryd.func143, Tryd.ntmps143
    go_wp2
    go_ret
    exact ⟨ret_val (by rw [E1.out]; rfl), rfl⟩
end Go.Proofs.YtokiekachlmigaaDoor
