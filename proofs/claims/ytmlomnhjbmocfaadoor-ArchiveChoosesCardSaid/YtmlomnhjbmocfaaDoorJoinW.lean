/- part.Join, Drop, All: what they compute. -/
import Derived.Test.YtmlomnhjbmocfaaDoorBC
import Derived.Test.YtmlomnhjbmocfaaDoorDropW
set_option linter.all false
namespace Go.Proofs.YtmlomnhjbmocfaaDoor
open Go.RowKit

def JoinIs (w : World) (r : Prt × Int) (e : Ending) (w' : World) : Prop :=
  ∃ p' : PtM, e = .returned (.tuple #[.agg #[.slice p'.fa p'.frs.length p'.fc, .slice p'.da p'.dfs.length p'.dc], .int .i64 r.2]) ∧ p'.Own w' w.heap.size ∧ p'.er = r.1 ∧ Below w.heap.size w w'
theorem nil_own (w : World) (B : Nat) : PtM.Own w B ⟨[], [], none, 0, none, 0⟩ := ⟨World.ownsRow_nil _ _ _ _, World.ownsRow_nil _ _ _ _, fun x hx => absurd hx (by simp), List.Pairwise.nil⟩
theorem joinW0 (a b : PtM) (w : World) : Blk (((w.alloc (.cells #[.slice a.fa a.frs.length a.fc, .slice a.da a.dfs.length a.dc] 25)).alloc (.cells #[.slice b.fa b.frs.length b.fc, .slice b.da b.dfs.length b.dc] 25)).alloc (.cells #[.slice none 0 0, .slice none 0 0] 25)) w.heap.size 25 #[.slice a.fa a.frs.length a.fc, .slice a.da a.dfs.length a.dc] ∧ Blk (((w.alloc (.cells #[.slice a.fa a.frs.length a.fc, .slice a.da a.dfs.length a.dc] 25)).alloc (.cells #[.slice b.fa b.frs.length b.fc, .slice b.da b.dfs.length b.dc] 25)).alloc (.cells #[.slice none 0 0, .slice none 0 0] 25)) (w.heap.size + 1) 25 #[.slice b.fa b.frs.length b.fc, .slice b.da b.dfs.length b.dc] ∧ Blk (((w.alloc (.cells #[.slice a.fa a.frs.length a.fc, .slice a.da a.dfs.length a.dc] 25)).alloc (.cells #[.slice b.fa b.frs.length b.fc, .slice b.da b.dfs.length b.dc] 25)).alloc (.cells #[.slice none 0 0, .slice none 0 0] 25)) (w.heap.size + 1 + 1) 25 #[.slice none 0 0, .slice none 0 0] ∧ Below w.heap.size w (((w.alloc (.cells #[.slice a.fa a.frs.length a.fc, .slice a.da a.dfs.length a.dc] 25)).alloc (.cells #[.slice b.fa b.frs.length b.fc, .slice b.da b.dfs.length b.dc] 25)).alloc (.cells #[.slice none 0 0, .slice none 0 0] 25)) :=
  ⟨((Blk.new' _ _ _ rfl).alloc _).alloc _, (Blk.new' _ _ _ (by simp)).alloc _, Blk.new' _ _ _ (by simp), by (repeat' (first | exact Below.refl _ _ | assumption | refine Below.setCell ?_ (by first | omega | exact Below.size (by assumption) | (simp; done) | (simp; omega)) _ | refine Below.alloc ?_ (by first | omega | exact Below.size (by assumption) | (simp; done) | (simp; omega)) _ | refine Below.drew ?_ | refine below_drewN ?_ _))⟩
theorem joinP_1 {a b : Prt} (h : ckPart a ≠ 0) : joinP a b = (.nil, ckPart a) := if_pos h
theorem joinP_2 {a b : Prt} (h : ckPart a = 0) (h2 : ckPart b ≠ 0) : joinP a b = (.nil, ckPart b) := by unfold joinP; rw [if_neg (by simp [h]), if_pos h2]

end Go.Proofs.YtmlomnhjbmocfaaDoor
