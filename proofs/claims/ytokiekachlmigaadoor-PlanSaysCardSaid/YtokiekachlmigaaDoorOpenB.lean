/- Nodes and truths among a row's arguments, opened. -/
import Derived.Test.YtokiekachlmigaaDoorLkP
import Derived.Test.YtokiekachlmigaaDoorPlB
set_option linter.all false
namespace Go.Proofs.YtokiekachlmigaaDoor
open Go.RowKit Go.ChangeShapes Go.WideShapes Go.Deep Go.Joins
set_option maxRecDepth 100000

theorem boolsV_flat (l : List Bool) : boolsV l = l.flatMap (fun b : Bool => [.bool b]) := by
  induction l with
  | nil => rfl
  | cons b l ih => rw [List.flatMap_cons, ← ih]; rfl
theorem Tryd.cellsBoolA : Tryd.prog.cellsOf 4 = 1 := by kernel_rfl
theorem Tryd.cellsNode : Tryd.prog.cellsOf 80 = 3 := by kernel_rfl
theorem Tryd.cellsNodes : Tryd.prog.cellsOf 70 = 1 := by kernel_rfl
theorem Tryd.cellsBools : Tryd.prog.cellsOf 71 = 1 := by kernel_rfl

section
variable {H : Type} {enc : TypeId × Value → H} {w : World}
theorem opens_node : Opens enc Tryd.prog w 80 Nd.cells (fun _ => True) := fun fuel cs x h => by
  obtain ⟨xs, n, _, _, hl, hxl, hf⟩ := DataW.trod_struct Tryd.underlying80 h
  rw [Tryd.cellsNode] at hl
  match cs, hl with
  | [v0, v1, v2], _ =>
    match xs, hxl with
    | [y0, y1, y2], _ =>
      obtain ⟨a, ea, _⟩ := opens_int Tryd.underlying3 n _ y0 (by simpa [Tryd.cellsInt] using hf 0 _ rfl)
      obtain ⟨b, eb, _⟩ := opens_int Tryd.underlying3 n _ y1 (by simpa [Tryd.cellsInt] using hf 1 _ rfl)
      obtain ⟨c, ec, _⟩ := opens_int Tryd.underlying3 n _ y2 (by simpa [Tryd.cellsInt] using hf 2 _ rfl)
      simp only [List.cons.injEq, and_true] at ea eb ec
      subst ea eb ec
      exact ⟨⟨a, b, c⟩, rfl, trivial⟩
theorem opens_bools : Opens enc Tryd.prog w 71 (SliceIn.cells (α := Bool)) (SliceIn.Ok w (fun b : Bool => [.bool b]) (fun _ => True) 1) :=
  opens_slice Tryd.underlying71 Tryd.cellsBoolA (by decide) (fun _ => rfl) (opens_bool Tryd.underlying4)
theorem opens_nodes : Opens enc Tryd.prog w 70 (SliceIn.cells (α := Nd)) (SliceIn.Ok w Nd.cells (fun _ => True) 3) :=
  opens_slice Tryd.underlying70 Tryd.cellsNode (by decide) (fun _ => rfl) opens_node
theorem bools_reads {s : SliceIn Bool} {ok : Bool → Prop} (h : SliceIn.Ok w (fun b : Bool => [.bool b]) ok 1 s) : Reads w w.heap.size 1 s.A s.l.length (boolsV s.l) := by
  rw [boolsV_flat]; exact h.reads
theorem nodes_reads {s : SliceIn Nd} {ok : Nd → Prop} (h : SliceIn.Ok w Nd.cells ok 3 s) : Reads w w.heap.size 3 s.A s.l.length (ndCells s.l) := h.reads
end
end Go.Proofs.YtokiekachlmigaaDoor
