/- Strings in a row among a law's arguments, opened. -/
import Derived.Test.YtbhjdinjoonngaaLkP
set_option linter.all false
namespace Go.Proofs.Ytbhjdinjoonngaa
open Go.RowKit Go.ChangeShapes Go.WideShapes Go.Deep Go.Joins
set_option maxRecDepth 100000

theorem opens_strs {H : Type} {enc : TypeId × Value → H} {w : World} : Opens enc Try.prog w 67 (SliceIn.cells (α := ByteArray)) (SliceIn.Ok w (fun s : ByteArray => [.string s]) (fun s => s.size ≤ maxLen) 1) :=
  opens_slice Try.underlying67 Try.cellsStr (by decide) (fun _ => rfl) (opens_string Try.underlying9)
theorem strs_reads {w : World} {s : SliceIn ByteArray} {ok : ByteArray → Prop} (h : SliceIn.Ok w (fun s : ByteArray => [.string s]) ok 1 s) : Reads w w.heap.size 1 s.A s.l.length (strsV s.l) := by
  rw [strsV_flat]; exact h.reads
end Go.Proofs.Ytbhjdinjoonngaa
