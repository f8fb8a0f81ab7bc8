/- ropewalklaw.put: the closed fact of the chapter on numbers in places. -/
import Derived.Test.YtjpkjcmphjnbhaaFillQ
namespace Go.Proofs.Ytjpkjcmphjnbhaa
open Go.RowKit

set_option maxHeartbeats 1000000 in
theorem putFact_any (w : World) : Calls Try.prog 27 #[] w fun e w' => e = .returned (.bool true) ∧ Below w.heap.size w w' := by
  have v0 : valueRes 3 20 10 0 = (-10, 0) := by decide
  have p0 : putRes [1, 2, 3] 1 3 (-10) = ([1, 246, 3], 0) := by decide
  have g0 : getRes [1, 246, 3] 1 3 = (-10, 0) := by decide
  have V0 := Lib.hid v0
  have P0 := Lib.hid p0
  have G0 := Lib.hid g0
  clear v0 p0 g0
  go_enter Try.func27, Try.ntmps27
  go_wp2_with fail
  refine (value_any 3 20 10 0 w (by omega) (by omega)).mono ?_
  rintro e w' ⟨rfl, rfl⟩
  rw [V0.out]
  go_wp2_with fail
  refine (put_any 3 1 (-10) (some ⟨w.heap.size, 0, none⟩) 3 [1, 2, 3] _ ((Blk.new w 5 #[.int .u8 1, .int .u8 2, .int .u8 3]).reads (n := 3) rfl) (Nat.le_of_ble_eq_true rfl)).mono ?_
  rintro e w1 ⟨v, rfl, ⟨A1, c1, rfl, hv⟩, hb1⟩
  rw [P0.out] at hv ⊢
  have hb1 := ((Below.refl w.heap.size w).alloc (Nat.le_refl _) (.cells #[.int .u8 1, .int .u8 2, .int .u8 3] 5)).trans (hb1.mono (by simp))
  go_wp2_with fail
  refine (get_any 3 1 A1 c1 [1, 246, 3] w1 hv (Nat.le_of_ble_eq_true rfl)).mono ?_
  rintro e w' ⟨rfl, rfl⟩
  rw [G0.out]
  go_wp2_with fail
  refine (bytesEqual_any A1 _ c1 3 [1, 246, 3] [1, 246, 3] _ ((hv.alloc (Nat.le_refl _) _).more (by simp)) ((Blk.new w1 5 #[.int .u8 1, .int .u8 246, .int .u8 3]).reads (n := 3) rfl)).mono ?_
  rintro e w4 ⟨rfl, rfl⟩
  go_wp2
  go_ret
  exact ⟨rfl, by (repeat' (first | exact Below.refl _ _ | assumption | refine Below.setCell ?_ (by first | omega | exact Below.size (by assumption) | (simp; done) | (simp; omega)) _ | refine Below.alloc ?_ (by first | omega | exact Below.size (by assumption) | (simp; done) | (simp; omega)) _ | refine Below.drew ?_ | refine below_drewN ?_ _))⟩
end Go.Proofs.Ytjpkjcmphjnbhaa
