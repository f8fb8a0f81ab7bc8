/- What the rows of this seat list: a world that lays the two tables. -/
import Derived.Test.YtmlomnhjbmocfaaDoorRows
import Derived.LaidLaws
import Derived.Deep.DeepLaidRun
import Derived.MakeChecks
import Derived.KernelRfl
set_option linter.all false
namespace Go.Proofs.YtmlomnhjbmocfaaDoor

noncomputable def laidL : List (String × DataW Unit) := [("unicode/utf8.acceptRanges", Rows.laid_unicode_utf8_acceptRanges), ("unicode/utf8.first", Rows.laid_unicode_utf8_first)]
def accCells : Array Value := #[.int .u8 128, .int .u8 191, .int .u8 160, .int .u8 191, .int .u8 128, .int .u8 159, .int .u8 144, .int .u8 191, .int .u8 128, .int .u8 143, .int .u8 0, .int .u8 0, .int .u8 0, .int .u8 0, .int .u8 0, .int .u8 0, .int .u8 0, .int .u8 0, .int .u8 0, .int .u8 0, .int .u8 0, .int .u8 0, .int .u8 0, .int .u8 0, .int .u8 0, .int .u8 0, .int .u8 0, .int .u8 0, .int .u8 0, .int .u8 0, .int .u8 0, .int .u8 0]
def fstCells : Array Value := (Go.Pinned.utf8FirstZ.map fun z : Nat => Value.int .u8 z).toArray
noncomputable def laidWorld (os : Os) : World :=
  let w0 := World.holding Tryd.prog os ⟨#[], #[], []⟩
  let put (h : Array Obj) (g : Nat) (cs : Array Value) : Array Obj := h.modify g fun
    | .cells _ t frozen => .cells cs t frozen
    | o => o
  { w0 with heap := put (put w0.heap ((Tryd.prog.globalNamed "unicode/utf8.acceptRanges").getD 0) accCells) ((Tryd.prog.globalNamed "unicode/utf8.first").getD 0) fstCells }
theorem laid_met (os : Os) (args : Array Value) : laidMetH Tryd.prog laidL ((laidWorld os).forCall (fun _ _ => 0) ⟨#[], args, []⟩).memory := by
  rw [MakeChecks.laidMetH_plain _ _ _ (by kernel_rfl)]
  exact laidMet_of_run3 8 (by kernel_rfl) (by kernel_rfl) (by kernel_rfl)
end Go.Proofs.YtmlomnhjbmocfaaDoor
