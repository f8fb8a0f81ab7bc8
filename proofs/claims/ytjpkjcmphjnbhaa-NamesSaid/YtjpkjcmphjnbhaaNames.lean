/- ropewalklaw.Names returns true. -/
import Derived.Test.YtjpkjcmphjnbhaaEqI
namespace Go.Proofs.Ytjpkjcmphjnbhaa
open Go.RowKit

def limitsL : List Int := [64, 60, 60, 8, 8, 20000, 10000, 12, 8, 65536, 4, 20, 120, 5]
def kindsL : List Int := [1, 2, 3, 4, 5, 1, 2, 3, 4, 1, 2, 3, 1, 2, 1, 2, 3, 4, 5, 6, 7, 8]

def limitsA : Array Value := #[.int .i64 64, .int .i64 60, .int .i64 60, .int .i64 8, .int .i64 8, .int .i64 20000, .int .i64 10000, .int .i64 12, .int .i64 8, .int .i64 65536, .int .i64 4, .int .i64 20, .int .i64 120, .int .i64 5]
def kindsA : Array Value := #[.int .i64 1, .int .i64 2, .int .i64 3, .int .i64 4, .int .i64 5, .int .i64 1, .int .i64 2, .int .i64 3, .int .i64 4, .int .i64 1, .int .i64 2, .int .i64 3, .int .i64 1, .int .i64 2, .int .i64 1, .int .i64 2, .int .i64 3, .int .i64 4, .int .i64 5, .int .i64 6, .int .i64 7, .int .i64 8]
def errsA : Array Value := #[.int .i64 0, .int .i64 1, .int .i64 2, .int .i64 3, .int .i64 4, .int .i64 5, .int .i64 6, .int .i64 7, .int .i64 8, .int .i64 9, .int .i64 10, .int .i64 11, .int .i64 12]
def nw1 (w : World) : World := (((w.alloc (.cells errsA 22)).alloc (.cells limitsA 3)).alloc (.cells kindsA 3)).alloc (.cells limitsA 3)
theorem nw1_size (w : World) : (nw1 w).heap.size = w.heap.size + 4 := by simp [nw1]
theorem nw1_l (w : World) : Reads (nw1 w) (nw1 w).heap.size 1 (some ⟨w.heap.size + 1, 0, none⟩) 14 (intsV limitsL) := (((Blk.new' _ _ limitsA (by simp)).alloc _).alloc _).reads (n := 14) rfl
theorem nw1_k (w : World) : Reads (nw1 w) (nw1 w).heap.size 1 (some ⟨w.heap.size + 1 + 1, 0, none⟩) 22 (intsV kindsL) := ((Blk.new' _ _ kindsA (by simp)).alloc _).reads (n := 22) rfl
theorem nw1_l2 (w : World) : Reads (nw1 w) (nw1 w).heap.size 1 (some ⟨w.heap.size + 1 + 1 + 1, 0, none⟩) 14 (intsV limitsL) := (Blk.new' _ _ limitsA (by simp)).reads (n := 14) rfl
theorem nw1_below (w : World) : Below w.heap.size w (nw1 w) := by unfold nw1; (repeat' (first | exact Below.refl _ _ | assumption | refine Below.setCell ?_ (by first | omega | exact Below.size (by assumption) | (simp; done) | (simp; omega)) _ | refine Below.alloc ?_ (by first | omega | exact Below.size (by assumption) | (simp; done) | (simp; omega)) _ | refine Below.drew ?_ | refine below_drewN ?_ _))

set_option maxHeartbeats 1000000 in
theorem names_walk (w : World) :
    Calls Try.prog 3 #[] w fun e w' => e = .returned (.bool true) ∧ Below w.heap.size w w' := by
  go_enter Try.func3, Try.ntmps3
  go_wp2_with fail
  refine wp_loop_rounds 14 ?_
  iterate 14 (rw [rounds_succ]; go_wp2_with fail)
  refine (equalInts_any _ _ 14 14 limitsL limitsL (nw1 w) (nw1_l w) (nw1_l2 w) (Nat.le_of_ble_eq_true rfl)).mono ?_
  rintro e w1 ⟨rfl, hb1⟩
  have hk := ((nw1_k w).below hb1).more hb1.size
  have hb := (nw1_below w).trans (hb1.mono (nw1_below w).size)
  clear hb1
  rw [show (limitsL == limitsL) = true from rfl]
  go_wp2_with fail
  refine (equalInts_any _ _ 22 22 kindsL kindsL _ ((hk.alloc (Nat.le_refl _) _).more (by simp)) ((Blk.new w1 3 kindsA).reads (n := 22) rfl) (Nat.le_of_ble_eq_true rfl)).mono ?_
  rintro e w2 ⟨rfl, hb2⟩
  rw [show (kindsL == kindsL) = true from rfl]
  go_wp2
  go_ret
  exact ⟨rfl, (hb.alloc hb.size _).trans (hb2.mono (by have := hb.size; simp; omega))⟩
end Go.Proofs.Ytjpkjcmphjnbhaa
