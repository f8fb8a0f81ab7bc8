/- ropewalklaw.found: the call returns true. -/
import Derived.Test.YtpbbmddbmbmbpaaFaultW
import Derived.Test.YtpbbmddbmbmbpaaOwnP
import Derived.Test.YtpbbmddbmbmbpaaEqFW
namespace Go.Proofs.Ytpbbmddbmbmbpaa
open Go.RowKit

def foundP : Prt := ⟨[⟨4, 1, ⟨#[]⟩, [1, 2], 0, []⟩], [⟨⟨#[120]⟩, 2, 0, 1, 0, 0⟩, ⟨⟨#[120]⟩, 3, 0, 0, 4, 2⟩, ⟨⟨#[121]⟩, 1, 0, 0, 0, 0⟩, ⟨⟨#[121]⟩, 1, 0, 2, 0, 0⟩, ⟨⟨#[120]⟩, 3, 0, 0, 3, 8⟩]⟩
theorem found_x : findP foundP ⟨#[120]⟩ = (⟨⟨#[120]⟩, 3, 0, 0, 4, 8⟩, 0) := by kernel_rfl
theorem found_y : findP foundP ⟨#[121]⟩ = (⟨⟨#[]⟩, 0, 0, 0, 0, 0⟩, 6) := by kernel_rfl
theorem found_ck : ckPart foundP = 0 := by kernel_rfl
theorem setS_eq {l : List ByteArray} {k : List (List UInt8)} (h : (l.map keyOf).mergeSort (fun x y => decide (x ≤ y)) = k) : setS l = (Lib.compact k).map ofKey := by
  unfold setS compS
  rw [sortS_key, h]
theorem found_s1 : ([[120], [120], [121], [121], [120]] : List (List UInt8)).mergeSort (fun x y => decide (x ≤ y)) = [[120], [120], [120], [121], [121]] := by
  have h1 : ([120] : List UInt8) ≤ [121] := by decide
  have h2 : ¬ ([121] : List UInt8) ≤ [120] := by decide
  simp [List.mergeSort, List.MergeSort.Internal.splitInTwo, List.merge, h1, h2]
theorem found_s2 : ([[120], [121]] : List (List UInt8)).mergeSort (fun x y => decide (x ≤ y)) = [[120], [121]] := by
  have h1 : ([120] : List UInt8) ≤ [121] := by decide
  simp [List.mergeSort, List.MergeSort.Internal.splitInTwo, h1]
theorem found_d : definedP foundP = [⟨#[120]⟩, ⟨#[121]⟩] := (setS_eq (l := foundP.dfs.map Df.name) found_s1).trans (by kernel_rfl)
theorem found_w : wantedP foundP = [] := (setS_eq (l := foundP.frs.flatMap wantedF) (k := []) (by simp [foundP, wantedF])).trans (by kernel_rfl)
theorem found_f : faultsP foundP = [⟨6, ⟨#[121]⟩⟩] := by
  unfold faultsP
  have e : setS (([] : List ByteArray) ++ [⟨#[120]⟩, ⟨#[121]⟩]) = [⟨#[120]⟩, ⟨#[121]⟩] := (setS_eq (l := [(⟨#[120]⟩ : ByteArray), ⟨#[121]⟩]) found_s2).trans (by kernel_rfl)
  have e2 : List.filterMap (fltOf foundP.dfs) [⟨#[120]⟩, ⟨#[121]⟩] = [⟨6, ⟨#[121]⟩⟩] := by kernel_rfl
  rw [found_d, found_w]
  exact (congrArg (List.filterMap (fltOf foundP.dfs)) e).trans e2

set_option maxHeartbeats 2000000 in
theorem foundW0 (w : World) : Blk ((((w.alloc (.cells #[.int .u8 1, .int .u8 2] 5)).alloc (.cells #[.int .i64 4, .int .i64 1, .string ⟨#[]⟩, .slice (some ⟨w.heap.size, 0, none⟩) 2 2, .int .i64 0, .slice none 0 0] 75)).alloc (.cells #[.string ⟨#[120]⟩, .int .i64 2, .int .i64 0, .int .i64 1, .int .i64 0, .int .i64 0, .string ⟨#[120]⟩, .int .i64 3, .int .i64 0, .int .i64 0, .int .i64 4, .int .i64 2, .string ⟨#[121]⟩, .int .i64 1, .int .i64 0, .int .i64 0, .int .i64 0, .int .i64 0, .string ⟨#[121]⟩, .int .i64 1, .int .i64 0, .int .i64 2, .int .i64 0, .int .i64 0, .string ⟨#[120]⟩, .int .i64 3, .int .i64 0, .int .i64 0, .int .i64 3, .int .i64 8] 79)).alloc (.cells #[.slice (some ⟨w.heap.size + 1, 0, none⟩) 1 1, .slice (some ⟨w.heap.size + 1 + 1, 0, none⟩) 5 5] 44)) (w.heap.size + 3) 44 #[.slice (some ⟨w.heap.size + 1, 0, none⟩) 1 1, .slice (some ⟨w.heap.size + 1 + 1, 0, none⟩) 5 5] ∧
    Below w.heap.size w ((((w.alloc (.cells #[.int .u8 1, .int .u8 2] 5)).alloc (.cells #[.int .i64 4, .int .i64 1, .string ⟨#[]⟩, .slice (some ⟨w.heap.size, 0, none⟩) 2 2, .int .i64 0, .slice none 0 0] 75)).alloc (.cells #[.string ⟨#[120]⟩, .int .i64 2, .int .i64 0, .int .i64 1, .int .i64 0, .int .i64 0, .string ⟨#[120]⟩, .int .i64 3, .int .i64 0, .int .i64 0, .int .i64 4, .int .i64 2, .string ⟨#[121]⟩, .int .i64 1, .int .i64 0, .int .i64 0, .int .i64 0, .int .i64 0, .string ⟨#[121]⟩, .int .i64 1, .int .i64 0, .int .i64 2, .int .i64 0, .int .i64 0, .string ⟨#[120]⟩, .int .i64 3, .int .i64 0, .int .i64 0, .int .i64 3, .int .i64 8] 79)).alloc (.cells #[.slice (some ⟨w.heap.size + 1, 0, none⟩) 1 1, .slice (some ⟨w.heap.size + 1 + 1, 0, none⟩) 5 5] 44)) ∧ PtM.Own ((((w.alloc (.cells #[.int .u8 1, .int .u8 2] 5)).alloc (.cells #[.int .i64 4, .int .i64 1, .string ⟨#[]⟩, .slice (some ⟨w.heap.size, 0, none⟩) 2 2, .int .i64 0, .slice none 0 0] 75)).alloc (.cells #[.string ⟨#[120]⟩, .int .i64 2, .int .i64 0, .int .i64 1, .int .i64 0, .int .i64 0, .string ⟨#[120]⟩, .int .i64 3, .int .i64 0, .int .i64 0, .int .i64 4, .int .i64 2, .string ⟨#[121]⟩, .int .i64 1, .int .i64 0, .int .i64 0, .int .i64 0, .int .i64 0, .string ⟨#[121]⟩, .int .i64 1, .int .i64 0, .int .i64 2, .int .i64 0, .int .i64 0, .string ⟨#[120]⟩, .int .i64 3, .int .i64 0, .int .i64 0, .int .i64 3, .int .i64 8] 79)).alloc (.cells #[.slice (some ⟨w.heap.size + 1, 0, none⟩) 1 1, .slice (some ⟨w.heap.size + 1 + 1, 0, none⟩) 5 5] 44)) w.heap.size ⟨[⟨⟨4, 1, ⟨#[]⟩, [1, 2], 0, []⟩, some ⟨w.heap.size, 0, none⟩, 2, none, 0⟩], [⟨⟨#[120]⟩, 2, 0, 1, 0, 0⟩, ⟨⟨#[120]⟩, 3, 0, 0, 4, 2⟩, ⟨⟨#[121]⟩, 1, 0, 0, 0, 0⟩, ⟨⟨#[121]⟩, 1, 0, 2, 0, 0⟩, ⟨⟨#[120]⟩, 3, 0, 0, 3, 8⟩], some ⟨w.heap.size + 1, 0, none⟩, 1, some ⟨w.heap.size + 1 + 1, 0, none⟩, 5⟩ := by
  have h0 := (((Blk.new' w 5 #[.int .u8 1, .int .u8 2] (g := w.heap.size) rfl).alloc (.cells #[.int .i64 4, .int .i64 1, .string ⟨#[]⟩, .slice (some ⟨w.heap.size, 0, none⟩) 2 2, .int .i64 0, .slice none 0 0] 75)).alloc (.cells #[.string ⟨#[120]⟩, .int .i64 2, .int .i64 0, .int .i64 1, .int .i64 0, .int .i64 0, .string ⟨#[120]⟩, .int .i64 3, .int .i64 0, .int .i64 0, .int .i64 4, .int .i64 2, .string ⟨#[121]⟩, .int .i64 1, .int .i64 0, .int .i64 0, .int .i64 0, .int .i64 0, .string ⟨#[121]⟩, .int .i64 1, .int .i64 0, .int .i64 2, .int .i64 0, .int .i64 0, .string ⟨#[120]⟩, .int .i64 3, .int .i64 0, .int .i64 0, .int .i64 3, .int .i64 8] 79)).alloc (.cells #[.slice (some ⟨w.heap.size + 1, 0, none⟩) 1 1, .slice (some ⟨w.heap.size + 1 + 1, 0, none⟩) 5 5] 44)
  have h1 := ((Blk.new' (w.alloc (.cells #[.int .u8 1, .int .u8 2] 5)) 75 #[.int .i64 4, .int .i64 1, .string ⟨#[]⟩, .slice (some ⟨w.heap.size, 0, none⟩) 2 2, .int .i64 0, .slice none 0 0] (g := w.heap.size + 1) (by simp)).alloc (.cells #[.string ⟨#[120]⟩, .int .i64 2, .int .i64 0, .int .i64 1, .int .i64 0, .int .i64 0, .string ⟨#[120]⟩, .int .i64 3, .int .i64 0, .int .i64 0, .int .i64 4, .int .i64 2, .string ⟨#[121]⟩, .int .i64 1, .int .i64 0, .int .i64 0, .int .i64 0, .int .i64 0, .string ⟨#[121]⟩, .int .i64 1, .int .i64 0, .int .i64 2, .int .i64 0, .int .i64 0, .string ⟨#[120]⟩, .int .i64 3, .int .i64 0, .int .i64 0, .int .i64 3, .int .i64 8] 79)).alloc (.cells #[.slice (some ⟨w.heap.size + 1, 0, none⟩) 1 1, .slice (some ⟨w.heap.size + 1 + 1, 0, none⟩) 5 5] 44)
  have h2 := (Blk.new' ((w.alloc (.cells #[.int .u8 1, .int .u8 2] 5)).alloc (.cells #[.int .i64 4, .int .i64 1, .string ⟨#[]⟩, .slice (some ⟨w.heap.size, 0, none⟩) 2 2, .int .i64 0, .slice none 0 0] 75)) 79 #[.string ⟨#[120]⟩, .int .i64 2, .int .i64 0, .int .i64 1, .int .i64 0, .int .i64 0, .string ⟨#[120]⟩, .int .i64 3, .int .i64 0, .int .i64 0, .int .i64 4, .int .i64 2, .string ⟨#[121]⟩, .int .i64 1, .int .i64 0, .int .i64 0, .int .i64 0, .int .i64 0, .string ⟨#[121]⟩, .int .i64 1, .int .i64 0, .int .i64 2, .int .i64 0, .int .i64 0, .string ⟨#[120]⟩, .int .i64 3, .int .i64 0, .int .i64 0, .int .i64 3, .int .i64 8] (g := w.heap.size + 1 + 1) (by simp)).alloc (.cells #[.slice (some ⟨w.heap.size + 1, 0, none⟩) 1 1, .slice (some ⟨w.heap.size + 1 + 1, 0, none⟩) 5 5] 44)
  have h3 := Blk.new' (((w.alloc (.cells #[.int .u8 1, .int .u8 2] 5)).alloc (.cells #[.int .i64 4, .int .i64 1, .string ⟨#[]⟩, .slice (some ⟨w.heap.size, 0, none⟩) 2 2, .int .i64 0, .slice none 0 0] 75)).alloc (.cells #[.string ⟨#[120]⟩, .int .i64 2, .int .i64 0, .int .i64 1, .int .i64 0, .int .i64 0, .string ⟨#[120]⟩, .int .i64 3, .int .i64 0, .int .i64 0, .int .i64 4, .int .i64 2, .string ⟨#[121]⟩, .int .i64 1, .int .i64 0, .int .i64 0, .int .i64 0, .int .i64 0, .string ⟨#[121]⟩, .int .i64 1, .int .i64 0, .int .i64 2, .int .i64 0, .int .i64 0, .string ⟨#[120]⟩, .int .i64 3, .int .i64 0, .int .i64 0, .int .i64 3, .int .i64 8] 79)) 44 #[.slice (some ⟨w.heap.size + 1, 0, none⟩) 1 1, .slice (some ⟨w.heap.size + 1 + 1, 0, none⟩) 5 5] (g := w.heap.size + 3) (by simp)
  have hb : Below w.heap.size w ((((w.alloc (.cells #[.int .u8 1, .int .u8 2] 5)).alloc (.cells #[.int .i64 4, .int .i64 1, .string ⟨#[]⟩, .slice (some ⟨w.heap.size, 0, none⟩) 2 2, .int .i64 0, .slice none 0 0] 75)).alloc (.cells #[.string ⟨#[120]⟩, .int .i64 2, .int .i64 0, .int .i64 1, .int .i64 0, .int .i64 0, .string ⟨#[120]⟩, .int .i64 3, .int .i64 0, .int .i64 0, .int .i64 4, .int .i64 2, .string ⟨#[121]⟩, .int .i64 1, .int .i64 0, .int .i64 0, .int .i64 0, .int .i64 0, .string ⟨#[121]⟩, .int .i64 1, .int .i64 0, .int .i64 2, .int .i64 0, .int .i64 0, .string ⟨#[120]⟩, .int .i64 3, .int .i64 0, .int .i64 0, .int .i64 3, .int .i64 8] 79)).alloc (.cells #[.slice (some ⟨w.heap.size + 1, 0, none⟩) 1 1, .slice (some ⟨w.heap.size + 1 + 1, 0, none⟩) 5 5] 44)) := by (repeat' (first | exact Below.refl _ _ | assumption | refine Below.setCell ?_ (by first | omega | exact Below.size (by assumption) | (simp; done) | (simp; omega)) _ | refine Below.alloc ?_ (by first | omega | exact Below.size (by assumption) | (simp; done) | (simp; omega)) _ | refine Below.drew ?_ | refine below_drewN ?_ _))
  have hbf := own_of_blk h0 (base := w.heap.size) (size := 1) (n := 2) (by omega) rfl (by omega)
  have hff := own_of_blk h1 (base := w.heap.size) (size := 6) (n := 1) (by omega) rfl (by omega)
  have hdf := own_of_blk h2 (base := w.heap.size) (size := 6) (n := 5) (by omega) rfl (by omega)
  refine ⟨h3, hb, hff, hdf, fun x hx => ?_, List.pairwise_singleton _ _⟩
  obtain rfl : x = _ := by simpa using hx
  exact ⟨hbf, World.ownsRow_nil _ _ _ _⟩

set_option maxHeartbeats 8000000 in
set_option maxRecDepth 100000 in
theorem found_any (w : World) : Calls Try.prog 50 #[] w fun e w' => e = .returned (.bool true) ∧ Below w.heap.size w w' := by
  obtain ⟨k1, hB, ow⟩ := foundW0 w
  go_enter Try.func50, Try.ntmps50
  go_upto_region 2 with (fail)
  have hq : ∃ q : PtM, Blk ((((w.alloc (.cells #[.int .u8 1, .int .u8 2] 5)).alloc (.cells #[.int .i64 4, .int .i64 1, .string ⟨#[]⟩, .slice (some ⟨w.heap.size, 0, none⟩) 2 2, .int .i64 0, .slice none 0 0] 75)).alloc (.cells #[.string ⟨#[120]⟩, .int .i64 2, .int .i64 0, .int .i64 1, .int .i64 0, .int .i64 0, .string ⟨#[120]⟩, .int .i64 3, .int .i64 0, .int .i64 0, .int .i64 4, .int .i64 2, .string ⟨#[121]⟩, .int .i64 1, .int .i64 0, .int .i64 0, .int .i64 0, .int .i64 0, .string ⟨#[121]⟩, .int .i64 1, .int .i64 0, .int .i64 2, .int .i64 0, .int .i64 0, .string ⟨#[120]⟩, .int .i64 3, .int .i64 0, .int .i64 0, .int .i64 3, .int .i64 8] 79)).alloc (.cells #[.slice (some ⟨w.heap.size + 1, 0, none⟩) 1 1, .slice (some ⟨w.heap.size + 1 + 1, 0, none⟩) 5 5] 44)) (w.heap.size + 3) 44 #[.slice q.fa q.frs.length q.fc, .slice q.da q.dfs.length q.dc] ∧ q.At ((((w.alloc (.cells #[.int .u8 1, .int .u8 2] 5)).alloc (.cells #[.int .i64 4, .int .i64 1, .string ⟨#[]⟩, .slice (some ⟨w.heap.size, 0, none⟩) 2 2, .int .i64 0, .slice none 0 0] 75)).alloc (.cells #[.string ⟨#[120]⟩, .int .i64 2, .int .i64 0, .int .i64 1, .int .i64 0, .int .i64 0, .string ⟨#[120]⟩, .int .i64 3, .int .i64 0, .int .i64 0, .int .i64 4, .int .i64 2, .string ⟨#[121]⟩, .int .i64 1, .int .i64 0, .int .i64 0, .int .i64 0, .int .i64 0, .string ⟨#[121]⟩, .int .i64 1, .int .i64 0, .int .i64 2, .int .i64 0, .int .i64 0, .string ⟨#[120]⟩, .int .i64 3, .int .i64 0, .int .i64 0, .int .i64 3, .int .i64 8] 79)).alloc (.cells #[.slice (some ⟨w.heap.size + 1, 0, none⟩) 1 1, .slice (some ⟨w.heap.size + 1 + 1, 0, none⟩) 5 5] 44)) (((((w.alloc (.cells #[.int .u8 1, .int .u8 2] 5)).alloc (.cells #[.int .i64 4, .int .i64 1, .string ⟨#[]⟩, .slice (some ⟨w.heap.size, 0, none⟩) 2 2, .int .i64 0, .slice none 0 0] 75)).alloc (.cells #[.string ⟨#[120]⟩, .int .i64 2, .int .i64 0, .int .i64 1, .int .i64 0, .int .i64 0, .string ⟨#[120]⟩, .int .i64 3, .int .i64 0, .int .i64 0, .int .i64 4, .int .i64 2, .string ⟨#[121]⟩, .int .i64 1, .int .i64 0, .int .i64 0, .int .i64 0, .int .i64 0, .string ⟨#[121]⟩, .int .i64 1, .int .i64 0, .int .i64 2, .int .i64 0, .int .i64 0, .string ⟨#[120]⟩, .int .i64 3, .int .i64 0, .int .i64 0, .int .i64 3, .int .i64 8] 79)).alloc (.cells #[.slice (some ⟨w.heap.size + 1, 0, none⟩) 1 1, .slice (some ⟨w.heap.size + 1 + 1, 0, none⟩) 5 5] 44))).heap.size ∧ q.er = foundP := ⟨⟨[⟨⟨4, 1, ⟨#[]⟩, [1, 2], 0, []⟩, some ⟨w.heap.size, 0, none⟩, 2, none, 0⟩], [⟨⟨#[120]⟩, 2, 0, 1, 0, 0⟩, ⟨⟨#[120]⟩, 3, 0, 0, 4, 2⟩, ⟨⟨#[121]⟩, 1, 0, 0, 0, 0⟩, ⟨⟨#[121]⟩, 1, 0, 2, 0, 0⟩, ⟨⟨#[120]⟩, 3, 0, 0, 3, 8⟩], some ⟨w.heap.size + 1, 0, none⟩, 1, some ⟨w.heap.size + 1 + 1, 0, none⟩, 5⟩, k1, ow.at_, rfl⟩
  clear k1 ow
  obtain ⟨W, hW⟩ : ∃ W', W' = ((((w.alloc (.cells #[.int .u8 1, .int .u8 2] 5)).alloc (.cells #[.int .i64 4, .int .i64 1, .string ⟨#[]⟩, .slice (some ⟨w.heap.size, 0, none⟩) 2 2, .int .i64 0, .slice none 0 0] 75)).alloc (.cells #[.string ⟨#[120]⟩, .int .i64 2, .int .i64 0, .int .i64 1, .int .i64 0, .int .i64 0, .string ⟨#[120]⟩, .int .i64 3, .int .i64 0, .int .i64 0, .int .i64 4, .int .i64 2, .string ⟨#[121]⟩, .int .i64 1, .int .i64 0, .int .i64 0, .int .i64 0, .int .i64 0, .string ⟨#[121]⟩, .int .i64 1, .int .i64 0, .int .i64 2, .int .i64 0, .int .i64 0, .string ⟨#[120]⟩, .int .i64 3, .int .i64 0, .int .i64 0, .int .i64 3, .int .i64 8] 79)).alloc (.cells #[.slice (some ⟨w.heap.size + 1, 0, none⟩) 1 1, .slice (some ⟨w.heap.size + 1 + 1, 0, none⟩) 5 5] 44)) := ⟨_, rfl⟩
  obtain ⟨g1, hg1⟩ : ∃ g, g = w.heap.size + 1 + 1 + 1 := ⟨_, rfl⟩
  rw [← hg1, ← hW]
  rw [← hW, show w.heap.size + 3 = g1 from hg1.symm] at hq
  rw [← hW] at hB
  clear hW hg1
  obtain ⟨q, k1, a1, hq⟩ := hq
  replace hq := Lib.hid hq
  have q0 := k1.cell 0
  have q1 := k1.cell 1
  go_wp2_with fail
  refine (findOut_any q ⟨#[120]⟩ W a1).mono ?_
  rintro e w1 ⟨rfl, hs1⟩
  rw [hq.out, found_x]
  clear q0 q1
  go_upto_region 3 with (fail)
  have hs := hs1.alloc hs1.size (.cells #[.string ⟨#[120]⟩, .int .i64 3, .int .i64 0, .int .i64 0, .int .i64 4, .int .i64 8] 79)
  have k2 := Blk.new w1 79 #[.string ⟨#[120]⟩, .int .i64 3, .int .i64 0, .int .i64 0, .int .i64 4, .int .i64 8]
  obtain ⟨g2, hg2⟩ : ∃ g, g = w1.heap.size := ⟨_, rfl⟩
  obtain ⟨W, hW⟩ : ∃ W', W' = w1.alloc (.cells #[.string ⟨#[120]⟩, .int .i64 3, .int .i64 0, .int .i64 0, .int .i64 4, .int .i64 8] 79) := ⟨_, rfl⟩
  rw [← hg2] at k2 ⊢
  rw [← hW] at hs k2 ⊢
  clear hW hg2 hs1
  replace k1 := k1.all hs
  replace a1 := a1.all hs
  replace hB := hB.trans (hs.mono hB.size)
  clear hs
  have q0 := k1.cell 0
  have q1 := k1.cell 1
  go_wp2_with fail
  refine (findOut_any q ⟨#[121]⟩ W a1).mono ?_
  rintro e w1 ⟨rfl, hs1⟩
  rw [hq.out, found_y]
  clear q0 q1
  go_upto_region 4 with (fail)
  have hs := hs1.alloc hs1.size (.cells #[.string ⟨#[]⟩, .int .i64 0, .int .i64 0, .int .i64 0, .int .i64 0, .int .i64 0] 79)
  obtain ⟨W, hW⟩ : ∃ W', W' = w1.alloc (.cells #[.string ⟨#[]⟩, .int .i64 0, .int .i64 0, .int .i64 0, .int .i64 0, .int .i64 0] 79) := ⟨_, rfl⟩
  replace k1 := k1.all hs
  replace k2 := k2.all hs
  replace a1 := a1.all hs
  replace hB := hB.trans (hs.mono hB.size)
  rw [← hW] at k1 k2 a1 hB ⊢
  clear hW hs1 hs
  have q0 := k1.cell 0
  have q1 := k1.cell 1
  go_wp2_with fail
  refine (faults_any q W a1).mono ?_
  rintro e w1 ⟨v, rfl, _, hv1, hs⟩
  rw [hq.out] at hv1 ⊢
  have r1 := hv1 found_ck
  rw [found_ck]
  rw [found_f] at r1
  obtain ⟨A1, c1, rfl, hc1, hc2⟩ := own_form r1
  replace k2 := k2.all hs
  replace hB := hB.trans (hs.mono hB.size)
  clear q0 q1 k1 a1 hv1 hs
  have x0 := k2.cell 0
  have x1 := k2.cell 1
  have x2 := k2.cell 2
  have x3 := k2.cell 3
  have x4 := k2.cell 4
  have x5 := k2.cell 5
  have hd := df_eql ⟨⟨#[120]⟩, 3, 0, 0, 4, 8⟩ ⟨⟨#[120]⟩, 3, 0, 0, 4, 8⟩
  rw [show ((⟨⟨#[120]⟩, 3, 0, 0, 4, 8⟩ : Df) == ⟨⟨#[120]⟩, 3, 0, 0, 4, 8⟩) = true from by simp] at hd
  have rN := Reads.of_own r1
  go_wp2_with (go_at_call 94
               refine (equalFlts_any A1 (some ⟨w1.heap.size, 0, none⟩) c1 1 [⟨6, ⟨#[121]⟩⟩] [⟨6, ⟨#[121]⟩⟩] (w1.alloc (.cells #[.int .i64 6, .string ⟨#[121]⟩, .int .i64 0, .int .i64 0] 155)) ?hr1 ?hr2 (by simp)).mono ?_
               case hr1 => exact (rN.alloc (Nat.le_refl _) _).more (by simp)
               case hr2 => exact (Blk.new w1 155 #[.int .i64 6, .string ⟨#[121]⟩, .int .i64 0, .int .i64 0]).reads rfl
               rintro e w2 ⟨he, hb2⟩
               rw [show (([⟨6, ⟨#[121]⟩⟩] : List Flt) == [⟨6, ⟨#[121]⟩⟩]) = true from by simp] at he
               subst he)
  go_ret
  have hb3 : Below w1.heap.size w1 (w1.alloc (.cells #[.int .i64 6, .string ⟨#[121]⟩, .int .i64 0, .int .i64 0] 155)) := by (repeat' (first | exact Below.refl _ _ | assumption | refine Below.setCell ?_ (by first | omega | exact Below.size (by assumption) | (simp; done) | (simp; omega)) _ | refine Below.alloc ?_ (by first | omega | exact Below.size (by assumption) | (simp; done) | (simp; omega)) _ | refine Below.drew ?_ | refine below_drewN ?_ _))
  exact ⟨rfl, hB.trans ((hb3.trans (hb2.mono hb3.size)).mono hB.size)⟩
end Go.Proofs.Ytpbbmddbmbmbpaa
