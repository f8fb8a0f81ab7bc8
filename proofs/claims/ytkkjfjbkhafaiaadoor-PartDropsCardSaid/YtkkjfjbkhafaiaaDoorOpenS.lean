/- Strings in a row among a law's arguments, opened. -/
import Derived.Test.YtkkjfjbkhafaiaaDoorOpenP
namespace Go.Proofs.YtkkjfjbkhafaiaaDoor
open Go.RowKit Go.ChangeShapes Go.WideShapes Go.Deep Go.Joins
set_option maxRecDepth 100000

theorem opens_strs {H : Type} {enc : TypeId × Value → H} {w : World} : Opens enc Tryd.prog w 38 (SliceIn.cells (α := ByteArray)) (SliceIn.Ok w (fun s : ByteArray => [.string s]) (fun s => s.size ≤ maxLen) 1) :=
  opens_slice Tryd.underlying38 Tryd.cellsStr (by decide) (fun _ => rfl) (opens_string Tryd.underlying9)
theorem strs_reads {w : World} {s : SliceIn ByteArray} {ok : ByteArray → Prop} (h : SliceIn.Ok w (fun s : ByteArray => [.string s]) ok 1 s) : Reads w w.heap.size 1 s.A s.l.length (strsV s.l) := by
  rw [strsV_flat]; exact h.reads
end Go.Proofs.YtkkjfjbkhafaiaaDoor
