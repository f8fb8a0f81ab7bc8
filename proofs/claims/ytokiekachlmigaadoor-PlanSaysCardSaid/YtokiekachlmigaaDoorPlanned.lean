/- ropewalklaw.planned: a closed fact. -/
import Derived.Test.YtokiekachlmigaaDoorPlK
import Derived.Test.YtokiekachlmigaaDoorBA
import Derived.Test.YtokiekachlmigaaDoorPlB
import Derived.Test.YtokiekachlmigaaDoorEqB
set_option linter.all false
namespace Go.Proofs.YtokiekachlmigaaDoor
open Go.RowKit

def plA : List Nd := [⟨0, 0, 0⟩, ⟨1, 0, 0⟩, ⟨-1, 0, 1⟩, ⟨2, 0, 0⟩, ⟨-1, 2, 3⟩]
def plB : List Nd := [⟨0, 0, 0⟩, ⟨1, 0, 0⟩, ⟨2, 0, 0⟩, ⟨-1, 1, 2⟩, ⟨-1, 0, 3⟩]
theorem plA_eq : makeRes 3 [1] = (plA, 0) := by
  rw [makeRes_ok (by omega) (by simp), show (3 : Int).toNat = 3 from rfl, growT_two (k := 1) (by omega) (by decide), growT_two (k := 0) (by omega) (by decide)]
  simp only [Nat.reduceAdd, Nat.reduceSub, growT_one]
  rfl
theorem plB_eq : makeRes 3 [] = (plB, 0) := by
  rw [makeRes_ok (by omega) (by simp), show (3 : Int).toNat = 3 from rfl, growT_two (k := 0) (by omega) (by decide)]
  simp only [Nat.reduceAdd, Nat.reduceSub, growT_one]
  rw [growT_two (k := 0) (by omega) (by decide)]
  simp only [Nat.reduceAdd, Nat.reduceSub, growT_one]
  rfl
theorem plA_ready : readyRes plA 3 [true, true, false, false, false] = ([2, 3], 0) := by
  have h : ckPlan plA 3 = 0 := (Tr.two (Tr.two .one .one) .one).plan (by decide)
  rw [readyRes_ok h rfl]
  decide

set_option maxHeartbeats 2000000 in
theorem planned_any (w : World) : Calls Tryd.prog 43 #[] w fun e w' => e = .returned (.bool true) ∧ Below w.heap.size w w' := by
  have hA := fun A c w h => make_any 3 A c [1] w h (by decide)
  have hB := fun A c w h => make_any 3 A c [] w h (by decide)
  rw [plA_eq] at hA
  rw [plB_eq] at hB
  unfold MakeIs at hA hB
  go_enter Tryd.func43, Tryd.ntmps43
  go_wp2_with fail
  have b1 := Blk.new' w 3 #[.int .i64 1] rfl
  refine (hA _ _ _ (b1.reads (size := 1) (n := 1) rfl)).mono ?_
  rintro e w1 ⟨v1, rfl, ⟨A1, c1, rfl, hc1, hr1⟩, hb1⟩
  have hb1 : Below w.heap.size w w1 := ((Below.refl _ w).alloc (Nat.le_refl _) _).trans (hb1.mono (by simp))
  go_wp2_with fail
  refine (hB _ _ _ Reads.none_).mono ?_
  rintro e w2 ⟨v2, rfl, ⟨A2, c2, rfl, hc2, hr2⟩, hb2⟩
  have hr1 := (hr1.below hb2).more hb2.size
  have hb2 : Below w.heap.size w w2 := hb1.trans (hb2.mono hb1.size)
  go_wp2_with fail
  have b3 := Blk.new' w2 4 #[.bool true, .bool true, .bool false, .bool false, .bool false] rfl
  have hr1' := (hr1.alloc (Nat.le_refl _) (.cells #[.bool true, .bool true, .bool false, .bool false, .bool false] 4)).more (Nat.le_succ _)
  have hR := ready_any A1 (some ⟨w2.heap.size, 0, none⟩) c1 5 plA 3 [true, true, false, false, false] _ (hr1'.more (by simp)) (b3.reads (size := 1) (n := 5) rfl) (by decide) (by decide)
  rw [plA_ready] at hR
  refine hR.mono ?_
  rintro e w3 ⟨v3, rfl, ⟨A3, c3, rfl, hc3, hr3⟩, hb3⟩
  have hz3 : w2.heap.size ≤ w3.heap.size := by have := hb3.size; simp at this; omega
  have hb3' : Below w2.heap.size w2 w3 := ((Below.refl _ w2).alloc (Nat.le_refl _) _).trans (hb3.mono (by simp))
  have hr1 := (hr1.below hb3').more hz3
  have hr2 := (hr2.below hb3').more hz3
  have hb3 : Below w.heap.size w w3 := hb2.trans (hb3'.mono hb2.size)
  clear hR b3 hr1' hb2 hb1 hA hB b1 hb3' hz3
  go_wp2_with fail
  have b4 := Blk.new' w3 80 (ndCells plA).toArray rfl
  refine (equalNodes_any A1 (some ⟨w3.heap.size, 0, none⟩) c1 5 plA plA _ ((hr1.alloc (Nat.le_refl _) _).more (by simp)) ((b4.reads (size := 3) (n := 5) rfl)) (by decide)).mono ?_
  rintro e w4 ⟨rfl, hb4⟩
  have hz4 : w3.heap.size ≤ w4.heap.size := by have := hb4.size; simp at this; omega
  have hb4' : Below w3.heap.size w3 w4 := ((Below.refl _ w3).alloc (Nat.le_refl _) _).trans (hb4.mono (by simp))
  have hr2 := (hr2.below hb4').more hz4
  have hr3 := (hr3.below hb4').more hz4
  have hb4 : Below w.heap.size w w4 := hb3.trans (hb4'.mono hb3.size)
  clear hb3 hr1 b4 hb4' hz4
  rw [show (plA == plA) = true from rfl]
  go_wp2_with fail
  have b5 := Blk.new' w4 80 (ndCells plB).toArray rfl
  refine (equalNodes_any A2 (some ⟨w4.heap.size, 0, none⟩) c2 5 plB plB _ ((hr2.alloc (Nat.le_refl _) _).more (by simp)) ((b5.reads (size := 3) (n := 5) rfl)) (by decide)).mono ?_
  rintro e w5 ⟨rfl, hb5⟩
  have hz5 : w4.heap.size ≤ w5.heap.size := by have := hb5.size; simp at this; omega
  have hb5' : Below w4.heap.size w4 w5 := ((Below.refl _ w4).alloc (Nat.le_refl _) _).trans (hb5.mono (by simp))
  have hr3 := (hr3.below hb5').more hz5
  have hb5 : Below w.heap.size w w5 := hb4.trans (hb5'.mono hb4.size)
  clear hb4 hr2 b5 hb5' hz5
  rw [show (plB == plB) = true from rfl]
  go_wp2_with fail
  have b6 := Blk.new' w5 3 #[.int .i64 2, .int .i64 3] rfl
  refine (equalInts_any A3 (some ⟨w5.heap.size, 0, none⟩) c3 2 [2, 3] [2, 3] _ ((hr3.alloc (Nat.le_refl _) _).more (by simp)) ((b6.reads (size := 1) (n := 2) rfl)) (by decide)).mono ?_
  rintro e w6 ⟨rfl, hb6⟩
  have hb6' : Below w5.heap.size w5 w6 := ((Below.refl _ w5).alloc (Nat.le_refl _) _).trans (hb6.mono (by simp))
  have hb6 : Below w.heap.size w w6 := hb5.trans (hb6'.mono hb5.size)
  clear hb5 hr3 b6 hb6'
  rw [show (([2, 3] : List Int) == [2, 3]) = true from rfl]
  go_wp2
  go_ret
  exact ⟨rfl, hb6⟩
end Go.Proofs.YtokiekachlmigaaDoor
