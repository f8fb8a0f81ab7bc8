/- ropewalklaw.spliced: the closed fact of the parts: it holds. -/
import Derived.Test.YtmlomnhjbmocfaaDoorTwoW
import Derived.Test.YtmlomnhjbmocfaaDoorAllW
set_option linter.all false
namespace Go.Proofs.YtmlomnhjbmocfaaDoor
open Go.RowKit

def twoAB : Prt := ⟨[⟨1, 1, ⟨#[]⟩, [9, 0, 0], 0, [⟨1, 2, ⟨#[102]⟩, 0, 0⟩]⟩, ⟨1, 4, ⟨#[103]⟩, [7], 0, []⟩], [⟨⟨#[109, 97, 105, 110]⟩, 1, 0, 0, 0, 0⟩, ⟨⟨#[102]⟩, 1, 1, 0, 0, 0⟩]⟩
theorem two_join : joinP twoA twoB = (twoAB, 0) := by kernel_rfl
theorem two_again : joinP twoAB twoB = (twoAB, 0) := by kernel_rfl
theorem two_ck : ckPart twoAB = 0 := by kernel_rfl
theorem two_groups : groupsOf twoAB.frs = [⟨#[103]⟩] := by kernel_rfl

end Go.Proofs.YtmlomnhjbmocfaaDoor
