/- Items among a row's arguments, opened. -/
import Derived.Test.YtmlomnhjbmocfaaDoorB1
import Derived.Test.YtmlomnhjbmocfaaDoorArcM
set_option linter.all false
namespace Go.Proofs.YtmlomnhjbmocfaaDoor
open Go.RowKit Go.ChangeShapes Go.WideShapes Go.Deep Go.Joins
set_option maxRecDepth 100000

theorem Tryd.cellsBool : Tryd.prog.cellsOf 4 = 1 := by kernel_rfl
theorem Tryd.cellsParts : Tryd.prog.cellsOf 41 = 1 := by kernel_rfl
theorem Tryd.cellsItem : Tryd.prog.cellsOf 85 = 2 := by kernel_rfl
section
variable {H : Type} {enc : TypeId × Value → H} {w : World}
theorem opens_item : Opens enc Tryd.prog w 85 ItM.cells (fun x => x.Good w w.heap.size) := fun fuel cs x h => by
  obtain ⟨xs, n, _, _, hl, hxl, hf⟩ := DataW.trod_struct Tryd.underlying85 h
  rw [Tryd.cellsItem] at hl
  match cs, hl with
  | [v0, v1], _ =>
    match xs, hxl with
    | [y0, y1], _ =>
      obtain ⟨a, ea, _⟩ := opens_bool Tryd.underlying4 n _ y0 (by simpa [Tryd.cellsBool] using hf 0 _ rfl)
      obtain ⟨b, eb, ob⟩ := opens_slice (enc := enc) (w := w) Tryd.underlying41 Tryd.cellsPart (by decide) (fun _ => rfl) opens_part n _ y1 (by simpa [Tryd.cellsParts] using hf 1 _ rfl)
      simp only [List.cons.injEq, and_true, SliceIn.cells] at ea eb
      subst ea eb
      exact ⟨⟨a, b.l, b.A, b.c⟩, rfl, ⟨ob.reads, ob.each⟩, Nat.le_trans ob.cap ob.max⟩
theorem opens_items : Opens enc Tryd.prog w 40 (SliceIn.cells (α := ItM)) (SliceIn.Ok w ItM.cells (fun x => x.Good w w.heap.size) 2) :=
  opens_slice Tryd.underlying40 Tryd.cellsItem (by decide) (fun _ => rfl) opens_item
end
end Go.Proofs.YtmlomnhjbmocfaaDoor
