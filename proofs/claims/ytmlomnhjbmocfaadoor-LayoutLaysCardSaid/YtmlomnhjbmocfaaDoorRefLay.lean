/- ropewalkref.LaidOut: what it computes. -/
import Derived.Test.YtmlomnhjbmocfaaDoorRefLayA
import Derived.Test.YtmlomnhjbmocfaaDoorRefLayB
set_option linter.all false
namespace Go.Proofs.YtmlomnhjbmocfaaDoor
open Go.RowKit

theorem laidOut_any (p : PtM) (base : Nat) (w : World) (h : p.At w w.heap.size) (hcap : p.frs.length ≤ p.fc) (hc : ckPart p.er = 0) (hbase : base < 65536) :
    Calls Tryd.prog 9 #[.agg #[.slice p.fa p.frs.length p.fc, .slice p.da p.dfs.length p.dc], .int .i64 base] w (LayFar w p.er base) := by
  by_cases hx : 65536 < (layEnd p.er base).at_
  · exact laidOut_full p base w h hcap hc hbase hx
  · exact laidOut_fits p base w h hcap hc hbase hx
end Go.Proofs.YtmlomnhjbmocfaaDoor
