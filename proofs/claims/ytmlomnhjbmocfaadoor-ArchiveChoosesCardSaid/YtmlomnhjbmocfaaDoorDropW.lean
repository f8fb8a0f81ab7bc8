/- part.drop: what it computes. -/
import Derived.Test.YtmlomnhjbmocfaaDoorBC
import Derived.Test.YtmlomnhjbmocfaaDoorGroupsW
import Derived.Test.YtmlomnhjbmocfaaDoorCopyW
import Derived.Test.YtmlomnhjbmocfaaDoorBA
import Derived.Test.YtmlomnhjbmocfaaDoorB1
import Derived.BigRegion
set_option linter.all false
namespace Go.Proofs.YtmlomnhjbmocfaaDoor
open Go.RowKit

theorem make_to (n : Nat) (hn : n ≤ 1000000) (w : World) :
    (Instr.makeSlice 26 (.int .i64 (n : Int)) (.int .i64 (n : Int))).run Tryd.prog w = .ok (.slice (some ⟨w.heap.size, 0, none⟩) n n) (w.alloc (.cells (intsV (List.replicate n 0)).toArray 3)) := by
  obtain ⟨i0, hi, hz0, hz1, hz2⟩ := info_parts Tryd.infoInt
  have := run_make_one 26 3 i0 (.int .i64 0) Tryd.underlying26 hi hz0 hz1 rfl 8 hz2 n hn (by omega) w
  rw [this]
  simp [intsV, intV, List.map_const']

def DropIs (w : World) (p : Prt) (l : List ByteArray) (e : Ending) (w' : World) : Prop :=
  ∃ p' : PtM, e = .returned (.agg #[.slice p'.fa p'.frs.length p'.fc, .slice p'.da p'.dfs.length p'.dc]) ∧ p'.Own w' w.heap.size ∧ p'.er = dropP p l ∧ Below w.heap.size w w'

theorem cells_new {w : World} {t : TypeId} {cs : List Value} (j : Nat) (u : Value) (h : cs[j]? = some u) : (w.alloc (.cells cs.toArray t)).cell? ((⟨w.heap.size, 0, none⟩ : Addr).add j) = some u := by
  rw [add_none, Nat.zero_add, (Blk.new w t cs.toArray).cell]
  simpa using h
theorem fg_one (x : FgM) : ∀ u ∈ x.cells, u.oneCell' = true := by
  intro u hu
  exact fgsV_one [x] u (by simpa [fgsV] using hu)
theorem df_one (x : Df) : ∀ u ∈ x.cells, u.oneCell' = true := by
  intro u hu
  exact dfsV_one [x] u (by simpa [dfsV] using hu)
theorem partField0 (A : Option Addr) (n c : Nat) (A' : Option Addr) (n' c' : Nat) (w : World) : (Instr.field 25 (.agg #[.slice A n c, .slice A' n' c']) 0).run Tryd.prog w = .ok (.slice A n c) w := by kernel_rfl
theorem dropW0 (p : PtM) (w : World) : Blk ((((w.alloc (.cells #[.slice p.fa p.frs.length p.fc, .slice p.da p.dfs.length p.dc] 25)).alloc (.cells #[.slice none 0 0, .slice none 0 0] 25)).alloc (.cells (intsV (List.replicate p.frs.length 0)).toArray 3)).alloc (.cells #[.slice none 0 0, .slice none 0 0] 25)) w.heap.size 25 #[.slice p.fa p.frs.length p.fc, .slice p.da p.dfs.length p.dc] ∧ Blk ((((w.alloc (.cells #[.slice p.fa p.frs.length p.fc, .slice p.da p.dfs.length p.dc] 25)).alloc (.cells #[.slice none 0 0, .slice none 0 0] 25)).alloc (.cells (intsV (List.replicate p.frs.length 0)).toArray 3)).alloc (.cells #[.slice none 0 0, .slice none 0 0] 25)) (w.heap.size + 1) 25 #[.slice none 0 0, .slice none 0 0] ∧
    Blk ((((w.alloc (.cells #[.slice p.fa p.frs.length p.fc, .slice p.da p.dfs.length p.dc] 25)).alloc (.cells #[.slice none 0 0, .slice none 0 0] 25)).alloc (.cells (intsV (List.replicate p.frs.length 0)).toArray 3)).alloc (.cells #[.slice none 0 0, .slice none 0 0] 25)) (w.heap.size + 2) 3 (intsV (List.replicate p.frs.length 0)).toArray ∧ Blk ((((w.alloc (.cells #[.slice p.fa p.frs.length p.fc, .slice p.da p.dfs.length p.dc] 25)).alloc (.cells #[.slice none 0 0, .slice none 0 0] 25)).alloc (.cells (intsV (List.replicate p.frs.length 0)).toArray 3)).alloc (.cells #[.slice none 0 0, .slice none 0 0] 25)) (w.heap.size + 3) 25 #[.slice none 0 0, .slice none 0 0] ∧ Below w.heap.size w ((((w.alloc (.cells #[.slice p.fa p.frs.length p.fc, .slice p.da p.dfs.length p.dc] 25)).alloc (.cells #[.slice none 0 0, .slice none 0 0] 25)).alloc (.cells (intsV (List.replicate p.frs.length 0)).toArray 3)).alloc (.cells #[.slice none 0 0, .slice none 0 0] 25)) ∧ ((((w.alloc (.cells #[.slice p.fa p.frs.length p.fc, .slice p.da p.dfs.length p.dc] 25)).alloc (.cells #[.slice none 0 0, .slice none 0 0] 25)).alloc (.cells (intsV (List.replicate p.frs.length 0)).toArray 3)).alloc (.cells #[.slice none 0 0, .slice none 0 0] 25)).heap.size = w.heap.size + 4 :=
  ⟨(((Blk.new' _ _ _ rfl).alloc _).alloc _).alloc _, ((Blk.new' _ _ _ (by simp)).alloc _).alloc _, (Blk.new' _ _ _ (by simp)).alloc _, Blk.new' _ _ _ (by simp), by (repeat' (first | exact Below.refl _ _ | assumption | refine Below.setCell ?_ (by first | omega | exact Below.size (by assumption) | (simp; done) | (simp; omega)) _ | refine Below.alloc ?_ (by first | omega | exact Below.size (by assumption) | (simp; done) | (simp; omega)) _ | refine Below.drew ?_ | refine below_drewN ?_ _)), by simp⟩

end Go.Proofs.YtmlomnhjbmocfaaDoor
