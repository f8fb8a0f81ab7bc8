/- ropewalklaw.loaded: the closed fact of the chapter on images where they stand. -/
import Derived.Test.YtbhjdinjoonngaaBytesEq
import Derived.Test.YtbhjdinjoonngaaLoadR
set_option linter.all false
namespace Go.Proofs.Ytbhjdinjoonngaa
open Go.RowKit

def lseg (n : Nat) : Seg := ⟨4, [1, 2, 3], 1, true, false, some ⟨n, 0, none⟩, 3⟩
theorem lseg_byte (n : Nat) : byteRes 0 [lseg n] 6 = ⟨3, true, true, false, 0⟩ := rfl
theorem lseg_range (n : Nat) : rangeRes 0 [lseg n] 5 3 = ([2, 3, 0], 0) := rfl
theorem lseg_range2 (n : Nat) : rangeRes 0 [lseg n] 5 4 = ([], 5) := rfl
def lworld (w : World) : World := (((w.alloc (Obj.cells #[Value.int IntKind.u8 1, Value.int IntKind.u8 2, Value.int IntKind.u8 3] 5)).alloc
        (Obj.cells #[Value.int IntKind.i64 4, Value.slice (some ⟨w.heap.size, 0, none⟩) 3 3, Value.int IntKind.i64 1, Value.bool true, Value.bool false] 106)).alloc
    (Obj.cells #[Value.int IntKind.i64 0, Value.slice (some ⟨w.heap.size + 1, 0, none⟩) 1 1] 87))
theorem lworld_size (w : World) : (lworld w).heap.size = w.heap.size + 3 := by simp [lworld]
theorem lworld_b0 (w : World) : Blk (lworld w) w.heap.size 5 #[Value.int IntKind.u8 1, Value.int IntKind.u8 2, Value.int IntKind.u8 3] := ((Blk.new _ _ _).alloc _).alloc _
theorem lworld_b1 (w : World) : Blk (lworld w) (w.heap.size + 1) 106 #[Value.int IntKind.i64 4, Value.slice (some ⟨w.heap.size, 0, none⟩) 3 3, Value.int IntKind.i64 1, Value.bool true, Value.bool false] :=
  (Blk.new' _ _ _ (by simp)).alloc _
theorem lworld_b2 (w : World) : Blk (lworld w) (w.heap.size + 1 + 1) 87 #[Value.int IntKind.i64 0, Value.slice (some ⟨w.heap.size + 1, 0, none⟩) 1 1] := Blk.new' _ _ _ (by simp)
theorem lworld_segs (w : World) : SegsAt (lworld w) (lworld w).heap.size (some ⟨w.heap.size + 1, 0, none⟩) [lseg w.heap.size] := by
  refine ⟨(lworld_b1 w).reads (n := 1) rfl, ?_, Nat.le_of_ble_eq_true rfl, ?_⟩
  · intro s hs
    simp only [List.mem_singleton] at hs
    subst hs
    exact (lworld_b0 w).reads (n := 3) rfl
  · intro s hs
    simp only [List.mem_singleton] at hs
    subst hs
    exact Nat.le_of_ble_eq_true rfl
theorem lworld_below (w : World) : Below w.heap.size w (lworld w) := by
  unfold lworld; (repeat' (first | exact Below.refl _ _ | assumption | refine Below.setCell ?_ (by first | omega | exact Below.size (by assumption) | (simp; done) | (simp; omega)) _ | refine Below.alloc ?_ (by first | omega | exact Below.size (by assumption) | (simp; done) | (simp; omega)) _ | refine Below.drew ?_ | refine below_drewN ?_ _))
theorem lworld_c0 (w : World) : (lworld w).cell? ⟨w.heap.size + 1 + 1, 0, none⟩ = some (.int .i64 0) := (lworld_b2 w).cell 0
theorem lworld_c1 (w : World) : (lworld w).cell? ⟨w.heap.size + 1 + 1, 1, none⟩ = some (.slice (some ⟨w.heap.size + 1, 0, none⟩) 1 1) := (lworld_b2 w).cell 1

set_option maxHeartbeats 1000000 in
theorem loaded_any (w : World) :
    Calls Try.prog 42 #[] w fun e w' => e = .returned (.bool true) ∧ Below w.heap.size w w' := by
  have hS := lworld_segs w
  have hB := lworld_below w
  have hz := lworld_size w
  have c0 := lworld_c0 w
  have c1 := lworld_c1 w
  have Hz := Lib.hid hz
  clear hz
  go_enter Try.func42, Try.ntmps42
  go_wp2_with fail
  refine (byte_any 0 6 _ 1 [lseg w.heap.size] (lworld w) hS (by omega) (by omega)).mono ?_
  rintro e w1 ⟨rfl, hb1⟩
  rw [lseg_byte]
  have d0 := (hb1.cell (p := ⟨w.heap.size + 1 + 1, 0, none⟩) (by rw [Hz.out]; simp)).trans c0
  have d1 := (hb1.cell (p := ⟨w.heap.size + 1 + 1, 1, none⟩) (by rw [Hz.out]; simp)).trans c1
  have hz1 : w.heap.size + 1 + 1 < w1.heap.size := by have := hb1.size; rw [Hz.out] at this; omega
  have hS1 := hS.below hb1
  have hB1 : Below w.heap.size w w1 := hB.trans (hb1.mono (by rw [Hz.out]; omega))
  clear hb1 hS hB c0 c1 Hz
  simp only [ByteRes.val]
  go_wp2_with fail
  refine (range_any 0 5 3 _ 1 [lseg w.heap.size] w1 hS1 (by omega) (by omega)).mono ?_
  rintro e w2 ⟨v, rfl, ⟨A1, cc1, rfl, hv⟩, hb2⟩
  rw [lseg_range] at hv ⊢
  have e0 := (hb2.cell (p := ⟨w.heap.size + 1 + 1, 0, none⟩) hz1).trans d0
  have e1 := (hb2.cell (p := ⟨w.heap.size + 1 + 1, 1, none⟩) hz1).trans d1
  have hz2 : w.heap.size + 1 + 1 < w2.heap.size := by have := hb2.size; omega
  have hS2 := hS1.below hb2
  have hB2 : Below w.heap.size w w2 := hB1.trans (hb2.mono (by omega))
  clear hb2 hS1 hB1 d0 d1
  go_wp2_with fail
  refine (range_any 0 5 4 _ 1 [lseg w.heap.size] w2 hS2 (by omega) (by omega)).mono ?_
  rintro e w3 ⟨v, rfl, ⟨A2, cc2, rfl, hv2⟩, hb3⟩
  rw [lseg_range2] at hv2 ⊢
  have hv3 := (hv.below hb3).more hb3.size
  have hB3 : Below w.heap.size w w3 := hB2.trans (hb3.mono (by omega))
  clear hb3 hS2 hB2 e0 e1 hv hv2
  go_wp2_with fail
  refine (bytesEqual_any A1 _ cc1 3 [2, 3, 0] [2, 3, 0] _ ((hv3.alloc (Nat.le_refl _) _).more (by simp)) ((Blk.new w3 5 #[Value.int IntKind.u8 2, Value.int IntKind.u8 3, Value.int IntKind.u8 0]).reads (n := 3) rfl)).mono ?_
  rintro e w4 ⟨rfl, rfl⟩
  go_wp2
  go_ret
  exact ⟨rfl, by (repeat' (first | exact Below.refl _ _ | assumption | refine Below.setCell ?_ (by first | omega | exact Below.size (by assumption) | (simp; done) | (simp; omega)) _ | refine Below.alloc ?_ (by first | omega | exact Below.size (by assumption) | (simp; done) | (simp; omega)) _ | refine Below.drew ?_ | refine below_drewN ?_ _))⟩
end Go.Proofs.Ytbhjdinjoonngaa
