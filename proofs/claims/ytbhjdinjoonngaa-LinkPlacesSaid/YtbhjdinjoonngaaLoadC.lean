/- ropewalkref.ByteAt: what it computes, of a right image. -/
import Derived.Test.YtbhjdinjoonngaaLoadB
set_option linter.all false
namespace Go.Proofs.Ytbhjdinjoonngaa
open Go.RowKit

def atVal (a : Int) (o : Option (Nat × Seg)) : Value := .tuple #[.int .u8 ((byteOf a o).toNat : Int), .int .i64 (idxOf o)]

end Go.Proofs.Ytbhjdinjoonngaa
