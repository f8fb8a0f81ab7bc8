/- ropewalklaw.LayoutMoved: the call returns true. -/
import Derived.Test.YtbonpilpmjghbaaLaidF
import Derived.Test.YtbonpilpmjghbaaLayX
import Derived.Test.YtbonpilpmjghbaaAt
import Derived.Test.YtbonpilpmjghbaaIndexS
set_option linter.all false
namespace Go.Proofs.Ytbonpilpmjghbaa
open Go.RowKit

end Go.Proofs.Ytbonpilpmjghbaa
