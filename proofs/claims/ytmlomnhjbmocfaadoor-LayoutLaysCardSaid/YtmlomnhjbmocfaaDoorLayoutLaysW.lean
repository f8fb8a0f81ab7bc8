/- ropewalklaw.LayoutLays: the call returns true. -/
import Derived.Test.YtmlomnhjbmocfaaDoorLayLA
import Derived.Test.YtmlomnhjbmocfaaDoorLayLB
import Derived.Test.YtmlomnhjbmocfaaDoorLayLC
set_option linter.all false
namespace Go.Proofs.YtmlomnhjbmocfaaDoor
open Go.RowKit

theorem layoutLays_any (p : PtM) (base : Int) (s : ByteArray) (w : World) (h : p.At w w.heap.size) (hcap : p.frs.length ≤ p.fc) :
    Calls Tryd.prog 3 #[.agg #[.slice p.fa p.frs.length p.fc, .slice p.da p.dfs.length p.dc], .int .i64 base, .string s] w fun e w' => e = .returned (.bool true) ∧ Below w.heap.size w w' := by
  by_cases h0 : layE p.er base = 0
  · exact layoutLays_good p base s w h hcap h0
  · by_cases hc : ckPart p.er = 0
    · by_cases hbase : 0 ≤ base ∧ base < 65536
      · obtain ⟨n, rfl⟩ : ∃ n : Nat, base = n := ⟨base.toNat, by omega⟩
        exact layoutLays_full p n s w h hcap h0 hc (by omega)
      · by_cases h1 : base < 0
        · exact layoutLays_rng1 p base s w h hcap h0 hc h1
        · exact layoutLays_rng2 p base s w h hcap h0 hc h1 (by omega)
    · exact layoutLays_ck p base s w h hcap h0 hc
end Go.Proofs.YtmlomnhjbmocfaaDoor
