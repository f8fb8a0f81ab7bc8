/- What two parts define and want, joined. No program in sight. -/
import Derived.Test.YtmlomnhjbmocfaaDoorSetD
import Derived.Test.YtmlomnhjbmocfaaDoorBA
set_option linter.all false
namespace Go.Proofs.YtmlomnhjbmocfaaDoor
open Go.RowKit

theorem shift_rname (n : Nat) (r : Rel) : (r.shift n).name = r.name := by unfold Rel.shift; split <;> rfl
theorem wantedF_shift (n : Nat) (f : Frg) : wantedF (f.mapR (Rel.shift n)) = wantedF f := by
  unfold wantedF Frg.mapR
  simp only [List.filter_map, List.map_map]
  have e1 : (fun r : Rel => decide (r.name.size ≠ 0)) ∘ Rel.shift n = fun r : Rel => decide (r.name.size ≠ 0) := by funext r; simp only [Function.comp, shift_rname]
  have e2 : Rel.name ∘ Rel.shift n = Rel.name := by funext r; simp only [Function.comp, shift_rname]
  rw [e1, e2]
theorem wanted_joined (a b : Prt) : wantedP (joinU a b) = setS (wantedP a ++ wantedP (dropP b (groupsOf a.frs))) := by
  unfold wantedP
  refine setS_congr fun s => ?_
  rw [List.mem_append, setS_mem, setS_mem]
  unfold joinU
  simp only [List.flatMap_append, List.mem_append, List.flatMap_map]
  have e : (fun f => wantedF (Frg.mapR (Rel.shift a.frs.length) f)) = wantedF := by funext f; exact wantedF_shift _ f
  rw [e]
theorem defined_joined (a b : Prt) : definedP (joinU a b) = setS (definedP a ++ definedP (dropP b (groupsOf a.frs))) := by
  unfold definedP
  refine setS_congr fun s => ?_
  rw [List.mem_append, setS_mem, setS_mem]
  unfold joinU
  simp only [List.map_append, List.mem_append, List.map_map]
  have e : Df.name ∘ Df.shift a.frs.length = Df.name := by funext d; unfold Df.shift; simp only [Function.comp]; split <;> rfl
  rw [e]
end Go.Proofs.YtmlomnhjbmocfaaDoor
