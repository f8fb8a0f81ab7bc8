/- ropewalklaw.laid: the call returns true. -/
import Derived.Test.YtmlomnhjbmocfaaDoorLayH
import Derived.Test.YtmlomnhjbmocfaaDoorFoundW
import Derived.Test.YtmlomnhjbmocfaaDoorB1
set_option linter.all false
namespace Go.Proofs.YtmlomnhjbmocfaaDoor
open Go.RowKit

def laidP : Prt := ⟨[⟨4, 4, ⟨#[]⟩, [1], 0, []⟩, ⟨1, 1, ⟨#[]⟩, [1, 2, 3], 0, []⟩, ⟨1, 8, ⟨#[]⟩, [4], 0, []⟩], [⟨⟨#[99]⟩, 3, 0, 0, 2, 8⟩]⟩
theorem laid_ck : ckPart laidP = 0 := by kernel_rfl
theorem laid_d : definedP laidP = [⟨#[99]⟩] := (setS_eq (l := laidP.dfs.map Df.name) (k := [[99]]) (by simp [laidP, keyOf, List.mergeSort])).trans (by kernel_rfl)
theorem laid_end : layEnd laidP 5 = ⟨50, [⟨#[99]⟩], [48]⟩ := by
  unfold layEnd
  rw [laid_d]
  kernel_rfl
theorem laid_e : layE laidP 5 = 0 := by
  unfold layE
  rw [laid_ck, show (5 : Int).toNat = 5 from rfl, laid_end]
  rfl
theorem laid_r : layR laidP 5 = ⟨[32, 16, 24], [⟨#[99]⟩], [48], [16, 32, 32, 32, 48], [25, 32, 32, 33, 50]⟩ := by
  unfold layR
  rw [if_pos laid_e, show (5 : Int).toNat = 5 from rfl]
  unfold layTo
  rw [laid_end]
  kernel_rfl
theorem laid_where : whereA laidP 5 ⟨#[99]⟩ = (48, 0) := by
  unfold whereA
  rw [show findP laidP ⟨#[99]⟩ = (⟨⟨#[99]⟩, 3, 0, 0, 2, 8⟩, 0) by kernel_rfl]
  unfold comAdr
  rw [laid_end]
  rfl

set_option maxHeartbeats 4000000 in
theorem laidW0 (w : World) : Blk ((((((w.alloc (.cells #[.int .u8 1] 5)).alloc (.cells #[.int .u8 1, .int .u8 2, .int .u8 3] 5)).alloc (.cells #[.int .u8 4] 5)).alloc (.cells #[.int .i64 4, .int .i64 4, .string ⟨#[]⟩, .slice (some ⟨w.heap.size, 0, none⟩) 1 1, .int .i64 0, .slice none 0 0, .int .i64 1, .int .i64 1, .string ⟨#[]⟩, .slice (some ⟨w.heap.size + 1, 0, none⟩) 3 3, .int .i64 0, .slice none 0 0, .int .i64 1, .int .i64 8, .string ⟨#[]⟩, .slice (some ⟨w.heap.size + 1 + 1, 0, none⟩) 1 1, .int .i64 0, .slice none 0 0] 63)).alloc (.cells #[.string ⟨#[99]⟩, .int .i64 3, .int .i64 0, .int .i64 0, .int .i64 2, .int .i64 8] 70)).alloc (.cells #[.slice (some ⟨w.heap.size + 1 + 1 + 1, 0, none⟩) 3 3, .slice (some ⟨w.heap.size + 1 + 1 + 1 + 1, 0, none⟩) 1 1] 25)) (w.heap.size + 5) 25 #[.slice (some ⟨w.heap.size + 1 + 1 + 1, 0, none⟩) 3 3, .slice (some ⟨w.heap.size + 1 + 1 + 1 + 1, 0, none⟩) 1 1] ∧
    Below w.heap.size w ((((((w.alloc (.cells #[.int .u8 1] 5)).alloc (.cells #[.int .u8 1, .int .u8 2, .int .u8 3] 5)).alloc (.cells #[.int .u8 4] 5)).alloc (.cells #[.int .i64 4, .int .i64 4, .string ⟨#[]⟩, .slice (some ⟨w.heap.size, 0, none⟩) 1 1, .int .i64 0, .slice none 0 0, .int .i64 1, .int .i64 1, .string ⟨#[]⟩, .slice (some ⟨w.heap.size + 1, 0, none⟩) 3 3, .int .i64 0, .slice none 0 0, .int .i64 1, .int .i64 8, .string ⟨#[]⟩, .slice (some ⟨w.heap.size + 1 + 1, 0, none⟩) 1 1, .int .i64 0, .slice none 0 0] 63)).alloc (.cells #[.string ⟨#[99]⟩, .int .i64 3, .int .i64 0, .int .i64 0, .int .i64 2, .int .i64 8] 70)).alloc (.cells #[.slice (some ⟨w.heap.size + 1 + 1 + 1, 0, none⟩) 3 3, .slice (some ⟨w.heap.size + 1 + 1 + 1 + 1, 0, none⟩) 1 1] 25)) ∧ PtM.At ((((((w.alloc (.cells #[.int .u8 1] 5)).alloc (.cells #[.int .u8 1, .int .u8 2, .int .u8 3] 5)).alloc (.cells #[.int .u8 4] 5)).alloc (.cells #[.int .i64 4, .int .i64 4, .string ⟨#[]⟩, .slice (some ⟨w.heap.size, 0, none⟩) 1 1, .int .i64 0, .slice none 0 0, .int .i64 1, .int .i64 1, .string ⟨#[]⟩, .slice (some ⟨w.heap.size + 1, 0, none⟩) 3 3, .int .i64 0, .slice none 0 0, .int .i64 1, .int .i64 8, .string ⟨#[]⟩, .slice (some ⟨w.heap.size + 1 + 1, 0, none⟩) 1 1, .int .i64 0, .slice none 0 0] 63)).alloc (.cells #[.string ⟨#[99]⟩, .int .i64 3, .int .i64 0, .int .i64 0, .int .i64 2, .int .i64 8] 70)).alloc (.cells #[.slice (some ⟨w.heap.size + 1 + 1 + 1, 0, none⟩) 3 3, .slice (some ⟨w.heap.size + 1 + 1 + 1 + 1, 0, none⟩) 1 1] 25)) (((((((w.alloc (.cells #[.int .u8 1] 5)).alloc (.cells #[.int .u8 1, .int .u8 2, .int .u8 3] 5)).alloc (.cells #[.int .u8 4] 5)).alloc (.cells #[.int .i64 4, .int .i64 4, .string ⟨#[]⟩, .slice (some ⟨w.heap.size, 0, none⟩) 1 1, .int .i64 0, .slice none 0 0, .int .i64 1, .int .i64 1, .string ⟨#[]⟩, .slice (some ⟨w.heap.size + 1, 0, none⟩) 3 3, .int .i64 0, .slice none 0 0, .int .i64 1, .int .i64 8, .string ⟨#[]⟩, .slice (some ⟨w.heap.size + 1 + 1, 0, none⟩) 1 1, .int .i64 0, .slice none 0 0] 63)).alloc (.cells #[.string ⟨#[99]⟩, .int .i64 3, .int .i64 0, .int .i64 0, .int .i64 2, .int .i64 8] 70)).alloc (.cells #[.slice (some ⟨w.heap.size + 1 + 1 + 1, 0, none⟩) 3 3, .slice (some ⟨w.heap.size + 1 + 1 + 1 + 1, 0, none⟩) 1 1] 25))).heap.size ⟨[⟨⟨4, 4, ⟨#[]⟩, [1], 0, []⟩, some ⟨w.heap.size, 0, none⟩, 1, none, 0⟩, ⟨⟨1, 1, ⟨#[]⟩, [1, 2, 3], 0, []⟩, some ⟨w.heap.size + 1, 0, none⟩, 3, none, 0⟩, ⟨⟨1, 8, ⟨#[]⟩, [4], 0, []⟩, some ⟨w.heap.size + 1 + 1, 0, none⟩, 1, none, 0⟩], [⟨⟨#[99]⟩, 3, 0, 0, 2, 8⟩], some ⟨w.heap.size + 1 + 1 + 1, 0, none⟩, 3, some ⟨w.heap.size + 1 + 1 + 1 + 1, 0, none⟩, 1⟩ := by
  have h1 := (((((Blk.new' w 5 #[.int .u8 1] (g := w.heap.size) rfl).alloc (.cells #[.int .u8 1, .int .u8 2, .int .u8 3] 5)).alloc (.cells #[.int .u8 4] 5)).alloc (.cells #[.int .i64 4, .int .i64 4, .string ⟨#[]⟩, .slice (some ⟨w.heap.size, 0, none⟩) 1 1, .int .i64 0, .slice none 0 0, .int .i64 1, .int .i64 1, .string ⟨#[]⟩, .slice (some ⟨w.heap.size + 1, 0, none⟩) 3 3, .int .i64 0, .slice none 0 0, .int .i64 1, .int .i64 8, .string ⟨#[]⟩, .slice (some ⟨w.heap.size + 1 + 1, 0, none⟩) 1 1, .int .i64 0, .slice none 0 0] 63)).alloc (.cells #[.string ⟨#[99]⟩, .int .i64 3, .int .i64 0, .int .i64 0, .int .i64 2, .int .i64 8] 70)).alloc (.cells #[.slice (some ⟨w.heap.size + 1 + 1 + 1, 0, none⟩) 3 3, .slice (some ⟨w.heap.size + 1 + 1 + 1 + 1, 0, none⟩) 1 1] 25)
  have h2 := ((((Blk.new' (w.alloc (.cells #[.int .u8 1] 5)) 5 #[.int .u8 1, .int .u8 2, .int .u8 3] (g := w.heap.size + 1) (by simp)).alloc (.cells #[.int .u8 4] 5)).alloc (.cells #[.int .i64 4, .int .i64 4, .string ⟨#[]⟩, .slice (some ⟨w.heap.size, 0, none⟩) 1 1, .int .i64 0, .slice none 0 0, .int .i64 1, .int .i64 1, .string ⟨#[]⟩, .slice (some ⟨w.heap.size + 1, 0, none⟩) 3 3, .int .i64 0, .slice none 0 0, .int .i64 1, .int .i64 8, .string ⟨#[]⟩, .slice (some ⟨w.heap.size + 1 + 1, 0, none⟩) 1 1, .int .i64 0, .slice none 0 0] 63)).alloc (.cells #[.string ⟨#[99]⟩, .int .i64 3, .int .i64 0, .int .i64 0, .int .i64 2, .int .i64 8] 70)).alloc (.cells #[.slice (some ⟨w.heap.size + 1 + 1 + 1, 0, none⟩) 3 3, .slice (some ⟨w.heap.size + 1 + 1 + 1 + 1, 0, none⟩) 1 1] 25)
  have h3 := (((Blk.new' ((w.alloc (.cells #[.int .u8 1] 5)).alloc (.cells #[.int .u8 1, .int .u8 2, .int .u8 3] 5)) 5 #[.int .u8 4] (g := w.heap.size + 1 + 1) (by simp)).alloc (.cells #[.int .i64 4, .int .i64 4, .string ⟨#[]⟩, .slice (some ⟨w.heap.size, 0, none⟩) 1 1, .int .i64 0, .slice none 0 0, .int .i64 1, .int .i64 1, .string ⟨#[]⟩, .slice (some ⟨w.heap.size + 1, 0, none⟩) 3 3, .int .i64 0, .slice none 0 0, .int .i64 1, .int .i64 8, .string ⟨#[]⟩, .slice (some ⟨w.heap.size + 1 + 1, 0, none⟩) 1 1, .int .i64 0, .slice none 0 0] 63)).alloc (.cells #[.string ⟨#[99]⟩, .int .i64 3, .int .i64 0, .int .i64 0, .int .i64 2, .int .i64 8] 70)).alloc (.cells #[.slice (some ⟨w.heap.size + 1 + 1 + 1, 0, none⟩) 3 3, .slice (some ⟨w.heap.size + 1 + 1 + 1 + 1, 0, none⟩) 1 1] 25)
  have h4 := ((Blk.new' (((w.alloc (.cells #[.int .u8 1] 5)).alloc (.cells #[.int .u8 1, .int .u8 2, .int .u8 3] 5)).alloc (.cells #[.int .u8 4] 5)) 63 #[.int .i64 4, .int .i64 4, .string ⟨#[]⟩, .slice (some ⟨w.heap.size, 0, none⟩) 1 1, .int .i64 0, .slice none 0 0, .int .i64 1, .int .i64 1, .string ⟨#[]⟩, .slice (some ⟨w.heap.size + 1, 0, none⟩) 3 3, .int .i64 0, .slice none 0 0, .int .i64 1, .int .i64 8, .string ⟨#[]⟩, .slice (some ⟨w.heap.size + 1 + 1, 0, none⟩) 1 1, .int .i64 0, .slice none 0 0] (g := w.heap.size + 1 + 1 + 1) (by simp)).alloc (.cells #[.string ⟨#[99]⟩, .int .i64 3, .int .i64 0, .int .i64 0, .int .i64 2, .int .i64 8] 70)).alloc (.cells #[.slice (some ⟨w.heap.size + 1 + 1 + 1, 0, none⟩) 3 3, .slice (some ⟨w.heap.size + 1 + 1 + 1 + 1, 0, none⟩) 1 1] 25)
  have h5 := (Blk.new' ((((w.alloc (.cells #[.int .u8 1] 5)).alloc (.cells #[.int .u8 1, .int .u8 2, .int .u8 3] 5)).alloc (.cells #[.int .u8 4] 5)).alloc (.cells #[.int .i64 4, .int .i64 4, .string ⟨#[]⟩, .slice (some ⟨w.heap.size, 0, none⟩) 1 1, .int .i64 0, .slice none 0 0, .int .i64 1, .int .i64 1, .string ⟨#[]⟩, .slice (some ⟨w.heap.size + 1, 0, none⟩) 3 3, .int .i64 0, .slice none 0 0, .int .i64 1, .int .i64 8, .string ⟨#[]⟩, .slice (some ⟨w.heap.size + 1 + 1, 0, none⟩) 1 1, .int .i64 0, .slice none 0 0] 63)) 70 #[.string ⟨#[99]⟩, .int .i64 3, .int .i64 0, .int .i64 0, .int .i64 2, .int .i64 8] (g := w.heap.size + 1 + 1 + 1 + 1) (by simp)).alloc (.cells #[.slice (some ⟨w.heap.size + 1 + 1 + 1, 0, none⟩) 3 3, .slice (some ⟨w.heap.size + 1 + 1 + 1 + 1, 0, none⟩) 1 1] 25)
  have h6 := Blk.new' (((((w.alloc (.cells #[.int .u8 1] 5)).alloc (.cells #[.int .u8 1, .int .u8 2, .int .u8 3] 5)).alloc (.cells #[.int .u8 4] 5)).alloc (.cells #[.int .i64 4, .int .i64 4, .string ⟨#[]⟩, .slice (some ⟨w.heap.size, 0, none⟩) 1 1, .int .i64 0, .slice none 0 0, .int .i64 1, .int .i64 1, .string ⟨#[]⟩, .slice (some ⟨w.heap.size + 1, 0, none⟩) 3 3, .int .i64 0, .slice none 0 0, .int .i64 1, .int .i64 8, .string ⟨#[]⟩, .slice (some ⟨w.heap.size + 1 + 1, 0, none⟩) 1 1, .int .i64 0, .slice none 0 0] 63)).alloc (.cells #[.string ⟨#[99]⟩, .int .i64 3, .int .i64 0, .int .i64 0, .int .i64 2, .int .i64 8] 70)) 25 #[.slice (some ⟨w.heap.size + 1 + 1 + 1, 0, none⟩) 3 3, .slice (some ⟨w.heap.size + 1 + 1 + 1 + 1, 0, none⟩) 1 1] (g := w.heap.size + 5) (by simp)
  have hb : Below w.heap.size w ((((((w.alloc (.cells #[.int .u8 1] 5)).alloc (.cells #[.int .u8 1, .int .u8 2, .int .u8 3] 5)).alloc (.cells #[.int .u8 4] 5)).alloc (.cells #[.int .i64 4, .int .i64 4, .string ⟨#[]⟩, .slice (some ⟨w.heap.size, 0, none⟩) 1 1, .int .i64 0, .slice none 0 0, .int .i64 1, .int .i64 1, .string ⟨#[]⟩, .slice (some ⟨w.heap.size + 1, 0, none⟩) 3 3, .int .i64 0, .slice none 0 0, .int .i64 1, .int .i64 8, .string ⟨#[]⟩, .slice (some ⟨w.heap.size + 1 + 1, 0, none⟩) 1 1, .int .i64 0, .slice none 0 0] 63)).alloc (.cells #[.string ⟨#[99]⟩, .int .i64 3, .int .i64 0, .int .i64 0, .int .i64 2, .int .i64 8] 70)).alloc (.cells #[.slice (some ⟨w.heap.size + 1 + 1 + 1, 0, none⟩) 3 3, .slice (some ⟨w.heap.size + 1 + 1 + 1 + 1, 0, none⟩) 1 1] 25)) := by (repeat' (first | exact Below.refl _ _ | assumption | refine Below.setCell ?_ (by first | omega | exact Below.size (by assumption) | (simp; done) | (simp; omega)) _ | refine Below.alloc ?_ (by first | omega | exact Below.size (by assumption) | (simp; done) | (simp; omega)) _ | refine Below.drew ?_ | refine below_drewN ?_ _))
  refine ⟨h6, hb, h4.reads rfl, fun x hx => ?_, h5.reads rfl, by simp, by simp⟩
  simp only [List.mem_cons, List.not_mem_nil, or_false] at hx
  rcases hx with rfl | rfl | rfl
  · exact ⟨h1.reads rfl, Reads.none_, by simp, by simp⟩
  · exact ⟨h2.reads rfl, Reads.none_, by simp, by simp⟩
  · exact ⟨h3.reads rfl, Reads.none_, by simp, by simp⟩

theorem laid_eq1 (w : World) : (Op.equalIn 10000 28 (.agg #[.int .i64 0, .int .i64 16, .int .i64 32, .int .i64 32, .int .i64 32, .int .i64 48]) (.agg #[.int .i64 0, .int .i64 16, .int .i64 32, .int .i64 32, .int .i64 32, .int .i64 48])).run Tryd.prog w = .ok true w := by kernel_rfl
theorem laid_eq2 (w : World) : (Op.equalIn 10000 28 (.agg #[.int .i64 0, .int .i64 25, .int .i64 32, .int .i64 32, .int .i64 33, .int .i64 50]) (.agg #[.int .i64 0, .int .i64 25, .int .i64 32, .int .i64 32, .int .i64 33, .int .i64 50])).run Tryd.prog w = .ok true w := by kernel_rfl

set_option maxHeartbeats 8000000 in
set_option maxRecDepth 100000 in
theorem laid_any (w : World) : Calls Tryd.prog 10 #[] w fun e w' => e = .returned (.bool true) ∧ Below w.heap.size w w' := by
  obtain ⟨k1, hB, hat⟩ := laidW0 w
  go_enter Tryd.func10, Tryd.ntmps10
  go_upto_region 2 with (fail)
  have hq : ∃ p : PtM, Blk ((((((w.alloc (.cells #[.int .u8 1] 5)).alloc (.cells #[.int .u8 1, .int .u8 2, .int .u8 3] 5)).alloc (.cells #[.int .u8 4] 5)).alloc (.cells #[.int .i64 4, .int .i64 4, .string ⟨#[]⟩, .slice (some ⟨w.heap.size, 0, none⟩) 1 1, .int .i64 0, .slice none 0 0, .int .i64 1, .int .i64 1, .string ⟨#[]⟩, .slice (some ⟨w.heap.size + 1, 0, none⟩) 3 3, .int .i64 0, .slice none 0 0, .int .i64 1, .int .i64 8, .string ⟨#[]⟩, .slice (some ⟨w.heap.size + 1 + 1, 0, none⟩) 1 1, .int .i64 0, .slice none 0 0] 63)).alloc (.cells #[.string ⟨#[99]⟩, .int .i64 3, .int .i64 0, .int .i64 0, .int .i64 2, .int .i64 8] 70)).alloc (.cells #[.slice (some ⟨w.heap.size + 1 + 1 + 1, 0, none⟩) 3 3, .slice (some ⟨w.heap.size + 1 + 1 + 1 + 1, 0, none⟩) 1 1] 25)) (w.heap.size + 5) 25 #[.slice p.fa p.frs.length p.fc, .slice p.da p.dfs.length p.dc] ∧ p.At ((((((w.alloc (.cells #[.int .u8 1] 5)).alloc (.cells #[.int .u8 1, .int .u8 2, .int .u8 3] 5)).alloc (.cells #[.int .u8 4] 5)).alloc (.cells #[.int .i64 4, .int .i64 4, .string ⟨#[]⟩, .slice (some ⟨w.heap.size, 0, none⟩) 1 1, .int .i64 0, .slice none 0 0, .int .i64 1, .int .i64 1, .string ⟨#[]⟩, .slice (some ⟨w.heap.size + 1, 0, none⟩) 3 3, .int .i64 0, .slice none 0 0, .int .i64 1, .int .i64 8, .string ⟨#[]⟩, .slice (some ⟨w.heap.size + 1 + 1, 0, none⟩) 1 1, .int .i64 0, .slice none 0 0] 63)).alloc (.cells #[.string ⟨#[99]⟩, .int .i64 3, .int .i64 0, .int .i64 0, .int .i64 2, .int .i64 8] 70)).alloc (.cells #[.slice (some ⟨w.heap.size + 1 + 1 + 1, 0, none⟩) 3 3, .slice (some ⟨w.heap.size + 1 + 1 + 1 + 1, 0, none⟩) 1 1] 25)) (((((((w.alloc (.cells #[.int .u8 1] 5)).alloc (.cells #[.int .u8 1, .int .u8 2, .int .u8 3] 5)).alloc (.cells #[.int .u8 4] 5)).alloc (.cells #[.int .i64 4, .int .i64 4, .string ⟨#[]⟩, .slice (some ⟨w.heap.size, 0, none⟩) 1 1, .int .i64 0, .slice none 0 0, .int .i64 1, .int .i64 1, .string ⟨#[]⟩, .slice (some ⟨w.heap.size + 1, 0, none⟩) 3 3, .int .i64 0, .slice none 0 0, .int .i64 1, .int .i64 8, .string ⟨#[]⟩, .slice (some ⟨w.heap.size + 1 + 1, 0, none⟩) 1 1, .int .i64 0, .slice none 0 0] 63)).alloc (.cells #[.string ⟨#[99]⟩, .int .i64 3, .int .i64 0, .int .i64 0, .int .i64 2, .int .i64 8] 70)).alloc (.cells #[.slice (some ⟨w.heap.size + 1 + 1 + 1, 0, none⟩) 3 3, .slice (some ⟨w.heap.size + 1 + 1 + 1 + 1, 0, none⟩) 1 1] 25))).heap.size ∧ p.er = laidP := ⟨⟨[⟨⟨4, 4, ⟨#[]⟩, [1], 0, []⟩, some ⟨w.heap.size, 0, none⟩, 1, none, 0⟩, ⟨⟨1, 1, ⟨#[]⟩, [1, 2, 3], 0, []⟩, some ⟨w.heap.size + 1, 0, none⟩, 3, none, 0⟩, ⟨⟨1, 8, ⟨#[]⟩, [4], 0, []⟩, some ⟨w.heap.size + 1 + 1, 0, none⟩, 1, none, 0⟩], [⟨⟨#[99]⟩, 3, 0, 0, 2, 8⟩], some ⟨w.heap.size + 1 + 1 + 1, 0, none⟩, 3, some ⟨w.heap.size + 1 + 1 + 1 + 1, 0, none⟩, 1⟩, k1, hat, rfl⟩
  clear k1 hat
  obtain ⟨W, hW⟩ : ∃ W', W' = ((((((w.alloc (.cells #[.int .u8 1] 5)).alloc (.cells #[.int .u8 1, .int .u8 2, .int .u8 3] 5)).alloc (.cells #[.int .u8 4] 5)).alloc (.cells #[.int .i64 4, .int .i64 4, .string ⟨#[]⟩, .slice (some ⟨w.heap.size, 0, none⟩) 1 1, .int .i64 0, .slice none 0 0, .int .i64 1, .int .i64 1, .string ⟨#[]⟩, .slice (some ⟨w.heap.size + 1, 0, none⟩) 3 3, .int .i64 0, .slice none 0 0, .int .i64 1, .int .i64 8, .string ⟨#[]⟩, .slice (some ⟨w.heap.size + 1 + 1, 0, none⟩) 1 1, .int .i64 0, .slice none 0 0] 63)).alloc (.cells #[.string ⟨#[99]⟩, .int .i64 3, .int .i64 0, .int .i64 0, .int .i64 2, .int .i64 8] 70)).alloc (.cells #[.slice (some ⟨w.heap.size + 1 + 1 + 1, 0, none⟩) 3 3, .slice (some ⟨w.heap.size + 1 + 1 + 1 + 1, 0, none⟩) 1 1] 25)) := ⟨_, rfl⟩
  obtain ⟨g1, hg1⟩ : ∃ g, g = w.heap.size + 1 + 1 + 1 + 1 + 1 := ⟨_, rfl⟩
  rw [← hg1, ← hW]
  rw [← hW, show w.heap.size + 5 = g1 from hg1.symm] at hq
  rw [← hW] at hB
  clear hW hg1
  obtain ⟨p, k1, a1, hq⟩ := hq
  replace hq := Lib.hid hq
  have q0 := k1.cell 0
  have q1 := k1.cell 1
  go_wp2_with fail
  refine (lay_any p 5 W a1).mono ?_
  rintro e w1 ⟨l, rfl, hr, hl, hs1⟩
  have he : layE p.er 5 = 0 := by rw [hq.out]; exact laid_e
  have HLC : Hid (l.cells.toArray = #[(.slice l.fa p.frs.length l.fc), (.slice l.na (layEnd p.er 5).ns.length l.nc), (.slice l.ca (layEnd p.er 5).cs.length l.cc), (.int .i64 0), (.int .i64 (secFrom p.er.frs 5 1 : Nat)), (.int .i64 (secFrom p.er.frs 5 2 : Nat)), (.int .i64 (secFrom p.er.frs 5 3 : Nat)), (.int .i64 (secFrom p.er.frs 5 4 : Nat)), (.int .i64 (secFrom p.er.frs 5 5 : Nat)), (.int .i64 0), (.int .i64 (toN p.er 5 1 : Nat)), (.int .i64 (toN p.er 5 2 : Nat)), (.int .i64 (toN p.er 5 3 : Nat)), (.int .i64 (toN p.er 5 4 : Nat)), (.int .i64 (toN p.er 5 5 : Nat))]) := lay_cells (p := p) (base := 5) hr he
  have HW := Lib.hid (fun W h1 h2 => where_any p l 5 ⟨#[99]⟩ W h1 h2 hr he)
  have hr2 : l.r = ⟨[32, 16, 24], [⟨#[99]⟩], [48], [16, 32, 32, 32, 48], [25, 32, 32, 33, 50]⟩ := by rw [hr, hq.out]; exact laid_r
  have HC2 : Hid (l.cells.toArray = #[.slice l.fa 3 l.fc, .slice l.na 1 l.nc, .slice l.ca 1 l.cc, .int .i64 0, .int .i64 16, .int .i64 32, .int .i64 32, .int .i64 32, .int .i64 48, .int .i64 0, .int .i64 25, .int .i64 32, .int .i64 32, .int .i64 33, .int .i64 50]) := by
    show _ = _
    unfold LyM.cells
    rw [hr2]
    rfl
  rw [he, HC2.out]
  clear q0 q1 he hr
  go_upto_region 3 with (fail)
  have hs := hs1.alloc hs1.size (.cells #[.slice l.fa 3 l.fc, .slice l.na 1 l.nc, .slice l.ca 1 l.cc, .int .i64 0, .int .i64 16, .int .i64 32, .int .i64 32, .int .i64 32, .int .i64 48, .int .i64 0, .int .i64 25, .int .i64 32, .int .i64 32, .int .i64 33, .int .i64 50] 30)
  have k2 := Blk.new w1 30 #[.slice l.fa 3 l.fc, .slice l.na 1 l.nc, .slice l.ca 1 l.cc, .int .i64 0, .int .i64 16, .int .i64 32, .int .i64 32, .int .i64 32, .int .i64 48, .int .i64 0, .int .i64 25, .int .i64 32, .int .i64 32, .int .i64 33, .int .i64 50]
  have a2 := (a1.all hs)
  have l2 : l.At (w1.alloc (.cells #[.slice l.fa 3 l.fc, .slice l.na 1 l.nc, .slice l.ca 1 l.cc, .int .i64 0, .int .i64 16, .int .i64 32, .int .i64 32, .int .i64 32, .int .i64 48, .int .i64 0, .int .i64 25, .int .i64 32, .int .i64 32, .int .i64 33, .int .i64 50] 30)) (w1.alloc (.cells #[.slice l.fa 3 l.fc, .slice l.na 1 l.nc, .slice l.ca 1 l.cc, .int .i64 0, .int .i64 16, .int .i64 32, .int .i64 32, .int .i64 32, .int .i64 48, .int .i64 0, .int .i64 25, .int .i64 32, .int .i64 32, .int .i64 33, .int .i64 50] 30)).heap.size := hl.keep (Below.alloc (Below.refl _ w1) (Nat.le_refl _) (.cells #[.slice l.fa 3 l.fc, .slice l.na 1 l.nc, .slice l.ca 1 l.cc, .int .i64 0, .int .i64 16, .int .i64 32, .int .i64 32, .int .i64 32, .int .i64 48, .int .i64 0, .int .i64 25, .int .i64 32, .int .i64 32, .int .i64 33, .int .i64 50] 30)) (by simp)
  obtain ⟨g2, hg2⟩ : ∃ g, g = w1.heap.size := ⟨_, rfl⟩
  obtain ⟨W2, hW2⟩ : ∃ W', W' = w1.alloc (.cells #[.slice l.fa 3 l.fc, .slice l.na 1 l.nc, .slice l.ca 1 l.cc, .int .i64 0, .int .i64 16, .int .i64 32, .int .i64 32, .int .i64 32, .int .i64 48, .int .i64 0, .int .i64 25, .int .i64 32, .int .i64 32, .int .i64 33, .int .i64 50] 30) := ⟨_, rfl⟩
  rw [← hg2] at k2 ⊢
  rw [← hW2] at hs k2 a2 l2 ⊢
  clear hW2 hg2 hs1 a1 hl
  replace k1 := k1.all hs
  replace hB := hB.trans (hs.mono hB.size)
  clear hs
  have q0 := k1.cell 0
  have q1 := k1.cell 1
  (have c0 := k2.cell 0; have c1 := k2.cell 1; have c2 := k2.cell 2; have c3 := k2.cell 3; have c4 := k2.cell 4; have c5 := k2.cell 5; have c6 := k2.cell 6; have c7 := k2.cell 7; have c8 := k2.cell 8; have c9 := k2.cell 9; have c10 := k2.cell 10; have c11 := k2.cell 11; have c12 := k2.cell 12; have c13 := k2.cell 13; have c14 := k2.cell 14)
  have hw := HW.out W2 a2 l2
  rw [← HLC.out, HC2.out, hq.out, laid_where] at hw
  go_wp2_with fail
  refine hw.mono ?_
  rintro e w3 ⟨rfl, hb3⟩
  replace k2 := k2.all hb3
  have l3 := (l2.keep hb3 hb3.size).fr
  replace hB := hB.trans (hb3.mono hB.size)
  rw [hr2] at l3
  have rE : Below w3.heap.size w3 (w3.alloc (.cells #[.int .i64 32, .int .i64 16, .int .i64 24] 3)) := by (repeat' (first | exact Below.refl _ _ | assumption | refine Below.setCell ?_ (by first | omega | exact Below.size (by assumption) | (simp; done) | (simp; omega)) _ | refine Below.alloc ?_ (by first | omega | exact Below.size (by assumption) | (simp; done) | (simp; omega)) _ | refine Below.drew ?_ | refine below_drewN ?_ _))
  have r1 : Reads (w3.alloc (.cells #[.int .i64 32, .int .i64 16, .int .i64 24] 3)) (w3.alloc (.cells #[.int .i64 32, .int .i64 16, .int .i64 24] 3)).heap.size 1 l.fa ([32, 16, 24] : List Int).length (intsV [32, 16, 24]) := (l3.below rE).more rE.size
  have r2 : Reads (w3.alloc (.cells #[.int .i64 32, .int .i64 16, .int .i64 24] 3)) (w3.alloc (.cells #[.int .i64 32, .int .i64 16, .int .i64 24] 3)).heap.size 1 (some ⟨w3.heap.size, 0, none⟩) ([32, 16, 24] : List Int).length (intsV [32, 16, 24]) := (Blk.new w3 3 #[.int .i64 32, .int .i64 16, .int .i64 24]).reads rfl
  have HEQ := Lib.hid (equalInts_any l.fa (some ⟨w3.heap.size, 0, none⟩) l.fc 3 [32, 16, 24] [32, 16, 24] _ r1 r2 (by simp))
  clear q0 q1 hw c0 c1 c2 c3 c4 c5 c6 c7 c8 c9 c10 c11 c12 c13 c14 k1 a2 l2 l3 r1 r2 hr2 hb3
  (have c0 := k2.cell 0; have c1 := k2.cell 1; have c2 := k2.cell 2; have c3 := k2.cell 3; have c4 := k2.cell 4; have c5 := k2.cell 5; have c6 := k2.cell 6; have c7 := k2.cell 7; have c8 := k2.cell 8; have c9 := k2.cell 9; have c10 := k2.cell 10; have c11 := k2.cell 11; have c12 := k2.cell 12; have c13 := k2.cell 13; have c14 := k2.cell 14)
  have e1 := laid_eq1
  have e2 := laid_eq2
  go_wp2_with (go_at_call 39
               refine HEQ.out.mono ?_
               rintro e w4 ⟨rfl, hb4⟩
               rw [show (([32, 16, 24] : List Int) == [32, 16, 24]) = true from rfl]
               replace k2 := k2.all (rE.trans (hb4.mono rE.size))
               (have c0 := k2.cell 0; have c1 := k2.cell 1; have c2 := k2.cell 2; have c3 := k2.cell 3; have c4 := k2.cell 4; have c5 := k2.cell 5; have c6 := k2.cell 6; have c7 := k2.cell 7; have c8 := k2.cell 8; have c9 := k2.cell 9; have c10 := k2.cell 10; have c11 := k2.cell 11; have c12 := k2.cell 12; have c13 := k2.cell 13; have c14 := k2.cell 14))
  go_ret
  exact ⟨rfl, hB.trans ((rE.trans (hb4.mono rE.size)).mono hB.size)⟩
end Go.Proofs.YtmlomnhjbmocfaaDoor
