/-
  No cell of these rows narrows 'for every input' (looked for: loops, veiled, ifaces, maps, wideKeys, modest, calm, conditions, laid).
  DERIVED. THE GIVEN ROWS OF THIS SEAT. 8 by the template 'for every input the law returns true; each argument reads behind the call as it read before'; 0 by the template 'total and deterministic' (their statements: YtjpkjcmphjnbhaaTotals.lean).
  GIVEN WITH THE SEED: the statements are not yours to turn. If you find one false, say at which input.
  Laid BY PROGRAM, IN A SANDBOX (cutbox-rows.mjs): the forced cells as the released guide's own fill.sh prints them over the translation a39832e9de5293cc… (all of the seat's roots in one cut). By AI agents, Wed Nov 11 2026. No macro, syntax, notation, axiom, sorry.
-/
import Derived.Test.YtjpkjcmphjnbhaaChecked
import GoSem.Claim
import GoSem.ClaimJoined
import GoSem.ClaimMapViews
import Derived.JoinedTies
import Derived.KernelRfl
namespace Go.Proofs.Ytjpkjcmphjnbhaa
/- THE CELL 'sum', in the pinned program and in every row, IS THE sha256 OF THE DUMP (.gsa) THAT YtjpkjcmphjnbhaaProg.lean LOADS. Nothing in Lean hashes anything: it is a label: what it is worth is what the hold of that sum in a sandbox is worth. -/
noncomputable def Try.pinned : Pinned := { name := "ytjpkjcmphjnbhaa", sum := "a39832e9de5293cc68fad44d56606921221eb27bb868eac8a3525b6cf98c9bf0", checked := Try.checked }
namespace Rows
def none {H : Type} : Left H := { results := [], args := [] }

/-- 'ropewalklaw.Names': WHATEVER THE INPUT: true; the input reads as it did. -/
def namesSpec : ChangeSpec := { name := "names", fn := fun _ => fun
  | [] => { results := [.lit (.bool true)], args := [] }
  | _ => none }
def namesRow : OpenClaim := { program := "ytjpkjcmphjnbhaa", sum := "a39832e9de5293cc68fad44d56606921221eb27bb868eac8a3525b6cf98c9bf0", func := "ropewalk/ropewalklaw.Names", spec := "names", apart := false }
def NamesSaid : Prop := namesRow.holds Try.pinned (OpenSpec.ofChange namesSpec)

/-- ITS FALSE NEIGHBOUR: 'it returns false'. Refute it at one input. -/
def namesWrong : ChangeSpec := { name := "names", fn := fun _ => fun
  | [] => { results := [.lit (.bool false)], args := [] }
  | _ => none }
def NamesWrongFalsely : Prop := namesRow.holds Try.pinned (OpenSpec.ofChange namesWrong)

/-- 'ropewalklaw.LoadSays': WHATEVER THE INPUT: true; the input reads as it did. -/
def loadSaysSpec : ChangeSpec := { name := "loadSays", fn := fun _ => fun
  | [d1, d2, d3] => { results := [.lit (.bool true)], args := [d1, d2, d3] }
  | _ => none }
def loadSaysRow : OpenClaim := { program := "ytjpkjcmphjnbhaa", sum := "a39832e9de5293cc68fad44d56606921221eb27bb868eac8a3525b6cf98c9bf0", func := "ropewalk/ropewalklaw.LoadSays", spec := "loadSays", apart := false }
def LoadSaysSaid : Prop := loadSaysRow.holds Try.pinned (OpenSpec.ofChange loadSaysSpec)

/-- ITS FALSE NEIGHBOUR: 'it returns false'. Refute it at one input. -/
def loadSaysWrong : ChangeSpec := { name := "loadSays", fn := fun _ => fun
  | [d1, d2, d3] => { results := [.lit (.bool false)], args := [d1, d2, d3] }
  | _ => none }
def LoadSaysWrongFalsely : Prop := loadSaysRow.holds Try.pinned (OpenSpec.ofChange loadSaysWrong)

/-- 'ropewalklaw.LoadParts': WHATEVER THE INPUT: true; the input reads as it did. -/
def loadPartsSpec : ChangeSpec := { name := "loadParts", fn := fun _ => fun
  | [d1, d2, d3, d4] => { results := [.lit (.bool true)], args := [d1, d2, d3, d4] }
  | _ => none }
def loadPartsRow : OpenClaim := { program := "ytjpkjcmphjnbhaa", sum := "a39832e9de5293cc68fad44d56606921221eb27bb868eac8a3525b6cf98c9bf0", func := "ropewalk/ropewalklaw.LoadParts", spec := "loadParts", apart := false }
def LoadPartsSaid : Prop := loadPartsRow.holds Try.pinned (OpenSpec.ofChange loadPartsSpec)

/-- ITS FALSE NEIGHBOUR: 'it returns false'. Refute it at one input. -/
def loadPartsWrong : ChangeSpec := { name := "loadParts", fn := fun _ => fun
  | [d1, d2, d3, d4] => { results := [.lit (.bool false)], args := [d1, d2, d3, d4] }
  | _ => none }
def LoadPartsWrongFalsely : Prop := loadPartsRow.holds Try.pinned (OpenSpec.ofChange loadPartsWrong)

/-- 'ropewalklaw.FillSays': WHATEVER THE INPUT: true; the input reads as it did. -/
def fillSaysSpec : ChangeSpec := { name := "fillSays", fn := fun _ => fun
  | [d1, d2, d3, d4, d5, d6, d7] => { results := [.lit (.bool true)], args := [d1, d2, d3, d4, d5, d6, d7] }
  | _ => none }
def fillSaysRow : OpenClaim := { program := "ytjpkjcmphjnbhaa", sum := "a39832e9de5293cc68fad44d56606921221eb27bb868eac8a3525b6cf98c9bf0", func := "ropewalk/ropewalklaw.FillSays", spec := "fillSays", apart := false }
def FillSaysSaid : Prop := fillSaysRow.holds Try.pinned (OpenSpec.ofChange fillSaysSpec)

/-- ITS FALSE NEIGHBOUR: 'it returns false'. Refute it at one input. -/
def fillSaysWrong : ChangeSpec := { name := "fillSays", fn := fun _ => fun
  | [d1, d2, d3, d4, d5, d6, d7] => { results := [.lit (.bool false)], args := [d1, d2, d3, d4, d5, d6, d7] }
  | _ => none }
def FillSaysWrongFalsely : Prop := fillSaysRow.holds Try.pinned (OpenSpec.ofChange fillSaysWrong)

/-- 'ropewalklaw.FillBack': WHATEVER THE INPUT: true; the input reads as it did. -/
def fillBackSpec : ChangeSpec := { name := "fillBack", fn := fun _ => fun
  | [d1, d2, d3, d4] => { results := [.lit (.bool true)], args := [d1, d2, d3, d4] }
  | _ => none }
def fillBackRow : OpenClaim := { program := "ytjpkjcmphjnbhaa", sum := "a39832e9de5293cc68fad44d56606921221eb27bb868eac8a3525b6cf98c9bf0", func := "ropewalk/ropewalklaw.FillBack", spec := "fillBack", apart := false }
def FillBackSaid : Prop := fillBackRow.holds Try.pinned (OpenSpec.ofChange fillBackSpec)

/-- ITS FALSE NEIGHBOUR: 'it returns false'. Refute it at one input. -/
def fillBackWrong : ChangeSpec := { name := "fillBack", fn := fun _ => fun
  | [d1, d2, d3, d4] => { results := [.lit (.bool false)], args := [d1, d2, d3, d4] }
  | _ => none }
def FillBackWrongFalsely : Prop := fillBackRow.holds Try.pinned (OpenSpec.ofChange fillBackWrong)

/-- 'ropewalklaw.FillMoved': WHATEVER THE INPUT: true; the input reads as it did. -/
def fillMovedSpec : ChangeSpec := { name := "fillMoved", fn := fun _ => fun
  | [d1, d2, d3, d4, d5] => { results := [.lit (.bool true)], args := [d1, d2, d3, d4, d5] }
  | _ => none }
def fillMovedRow : OpenClaim := { program := "ytjpkjcmphjnbhaa", sum := "a39832e9de5293cc68fad44d56606921221eb27bb868eac8a3525b6cf98c9bf0", func := "ropewalk/ropewalklaw.FillMoved", spec := "fillMoved", apart := false }
def FillMovedSaid : Prop := fillMovedRow.holds Try.pinned (OpenSpec.ofChange fillMovedSpec)

/-- ITS FALSE NEIGHBOUR: 'it returns false'. Refute it at one input. -/
def fillMovedWrong : ChangeSpec := { name := "fillMoved", fn := fun _ => fun
  | [d1, d2, d3, d4, d5] => { results := [.lit (.bool false)], args := [d1, d2, d3, d4, d5] }
  | _ => none }
def FillMovedWrongFalsely : Prop := fillMovedRow.holds Try.pinned (OpenSpec.ofChange fillMovedWrong)

/-- 'ropewalklaw.PlanReady': WHATEVER THE INPUT: true; the input reads as it did. -/
def planReadySpec : ChangeSpec := { name := "planReady", fn := fun _ => fun
  | [d1, d2, d3] => { results := [.lit (.bool true)], args := [d1, d2, d3] }
  | _ => none }
def planReadyRow : OpenClaim := { program := "ytjpkjcmphjnbhaa", sum := "a39832e9de5293cc68fad44d56606921221eb27bb868eac8a3525b6cf98c9bf0", func := "ropewalk/ropewalklaw.PlanReady", spec := "planReady", unfollowed := true, recurses := true, apart := false }
def PlanReadySaid : Prop := planReadyRow.holds Try.pinned (OpenSpec.ofChange planReadySpec)

/-- ITS FALSE NEIGHBOUR: 'it returns false'. Refute it at one input. -/
def planReadyWrong : ChangeSpec := { name := "planReady", fn := fun _ => fun
  | [d1, d2, d3] => { results := [.lit (.bool false)], args := [d1, d2, d3] }
  | _ => none }
def PlanReadyWrongFalsely : Prop := planReadyRow.holds Try.pinned (OpenSpec.ofChange planReadyWrong)

/-- 'ropewalklaw.PlanMakes': WHATEVER THE INPUT: true; the input reads as it did. -/
def planMakesSpec : ChangeSpec := { name := "planMakes", fn := fun _ => fun
  | [d1, d2, d3] => { results := [.lit (.bool true)], args := [d1, d2, d3] }
  | _ => none }
def planMakesRow : OpenClaim := { program := "ytjpkjcmphjnbhaa", sum := "a39832e9de5293cc68fad44d56606921221eb27bb868eac8a3525b6cf98c9bf0", func := "ropewalk/ropewalklaw.PlanMakes", spec := "planMakes", unfollowed := true, recurses := true, apart := false }
def PlanMakesSaid : Prop := planMakesRow.holds Try.pinned (OpenSpec.ofChange planMakesSpec)

/-- ITS FALSE NEIGHBOUR: 'it returns false'. Refute it at one input. -/
def planMakesWrong : ChangeSpec := { name := "planMakes", fn := fun _ => fun
  | [d1, d2, d3] => { results := [.lit (.bool false)], args := [d1, d2, d3] }
  | _ => none }
def PlanMakesWrongFalsely : Prop := planMakesRow.holds Try.pinned (OpenSpec.ofChange planMakesWrong)

/- THE SECOND FORM. 'bulk': how many values and letters a reading holds, each counted each time it is reached (what is shared counts as often as it is met; a slice's spare places count too). A statement '..UptoSaid' is the law's where the arguments, and the package variables that the reading takes, are together of bulk at most 1048576: NARROWER than '..Said'. Prove '..Said' where nothing that the law and all that it calls make is longer than what came in: it says more and counts as full. Else prove '..UptoSaid'. A law counts once. -/
mutual
def uptoBulk {H : Type} : DataW H → Nat
  | .lit (.string bytes) => bytes.length + 1
  | .lit _ => 1
  | .nil => 1
  | .ptr d => uptoBulk d + 1
  | .slice elems spare => uptoBulkAll elems + uptoBulkAll spare + 1
  | .agg parts => uptoBulkAll parts + 1
  | .iface _ d => uptoBulk d + 1
  | .map entries => uptoBulkEntries entries + 1
  | .held _ => 1
def uptoBulkAll {H : Type} : List (DataW H) → Nat
  | [] => 0
  | d :: r => uptoBulk d + uptoBulkAll r
def uptoBulkEntries {H : Type} : List (Lit × DataW H) → Nat
  | [] => 0
  | x :: r => uptoBulkEntry x + uptoBulkEntries r
def uptoBulkEntry {H : Type} : Lit × DataW H → Nat
  | (.string bytes, d) => bytes.length + uptoBulk d + 1
  | (_, d) => uptoBulk d + 1
 end
def uptoSmall : (H : Type) → List (DataW H) → Bool := fun _ ds => decide (uptoBulkAll ds ≤ 1048576)
def OpenSpec.upto (s : _root_.Go.ChangeSpec) : _root_.Go.OpenSpec := { _root_.Go.OpenSpec.ofChange s with cond := some uptoSmall }

/-- 'ropewalklaw.Names', WHERE WHAT IT READS IS OF BULK AT MOST 1048576: true; the input reads as it did. -/
def namesUptoRow : OpenClaim := { program := "ytjpkjcmphjnbhaa", sum := "a39832e9de5293cc68fad44d56606921221eb27bb868eac8a3525b6cf98c9bf0", func := "ropewalk/ropewalklaw.Names", spec := "names", apart := false, narrowed := true }
def NamesUptoSaid : Prop := namesUptoRow.holds Try.pinned (OpenSpec.upto namesSpec)

/-- 'ropewalklaw.LoadSays', WHERE WHAT IT READS IS OF BULK AT MOST 1048576: true; the input reads as it did. -/
def loadSaysUptoRow : OpenClaim := { program := "ytjpkjcmphjnbhaa", sum := "a39832e9de5293cc68fad44d56606921221eb27bb868eac8a3525b6cf98c9bf0", func := "ropewalk/ropewalklaw.LoadSays", spec := "loadSays", apart := false, narrowed := true }
def LoadSaysUptoSaid : Prop := loadSaysUptoRow.holds Try.pinned (OpenSpec.upto loadSaysSpec)

/-- 'ropewalklaw.LoadParts', WHERE WHAT IT READS IS OF BULK AT MOST 1048576: true; the input reads as it did. -/
def loadPartsUptoRow : OpenClaim := { program := "ytjpkjcmphjnbhaa", sum := "a39832e9de5293cc68fad44d56606921221eb27bb868eac8a3525b6cf98c9bf0", func := "ropewalk/ropewalklaw.LoadParts", spec := "loadParts", apart := false, narrowed := true }
def LoadPartsUptoSaid : Prop := loadPartsUptoRow.holds Try.pinned (OpenSpec.upto loadPartsSpec)

/-- 'ropewalklaw.FillSays', WHERE WHAT IT READS IS OF BULK AT MOST 1048576: true; the input reads as it did. -/
def fillSaysUptoRow : OpenClaim := { program := "ytjpkjcmphjnbhaa", sum := "a39832e9de5293cc68fad44d56606921221eb27bb868eac8a3525b6cf98c9bf0", func := "ropewalk/ropewalklaw.FillSays", spec := "fillSays", apart := false, narrowed := true }
def FillSaysUptoSaid : Prop := fillSaysUptoRow.holds Try.pinned (OpenSpec.upto fillSaysSpec)

/-- 'ropewalklaw.FillBack', WHERE WHAT IT READS IS OF BULK AT MOST 1048576: true; the input reads as it did. -/
def fillBackUptoRow : OpenClaim := { program := "ytjpkjcmphjnbhaa", sum := "a39832e9de5293cc68fad44d56606921221eb27bb868eac8a3525b6cf98c9bf0", func := "ropewalk/ropewalklaw.FillBack", spec := "fillBack", apart := false, narrowed := true }
def FillBackUptoSaid : Prop := fillBackUptoRow.holds Try.pinned (OpenSpec.upto fillBackSpec)

/-- 'ropewalklaw.FillMoved', WHERE WHAT IT READS IS OF BULK AT MOST 1048576: true; the input reads as it did. -/
def fillMovedUptoRow : OpenClaim := { program := "ytjpkjcmphjnbhaa", sum := "a39832e9de5293cc68fad44d56606921221eb27bb868eac8a3525b6cf98c9bf0", func := "ropewalk/ropewalklaw.FillMoved", spec := "fillMoved", apart := false, narrowed := true }
def FillMovedUptoSaid : Prop := fillMovedUptoRow.holds Try.pinned (OpenSpec.upto fillMovedSpec)

/-- 'ropewalklaw.PlanReady', WHERE WHAT IT READS IS OF BULK AT MOST 1048576: true; the input reads as it did. -/
def planReadyUptoRow : OpenClaim := { program := "ytjpkjcmphjnbhaa", sum := "a39832e9de5293cc68fad44d56606921221eb27bb868eac8a3525b6cf98c9bf0", func := "ropewalk/ropewalklaw.PlanReady", spec := "planReady", unfollowed := true, recurses := true, apart := false, narrowed := true }
def PlanReadyUptoSaid : Prop := planReadyUptoRow.holds Try.pinned (OpenSpec.upto planReadySpec)

/-- 'ropewalklaw.PlanMakes', WHERE WHAT IT READS IS OF BULK AT MOST 1048576: true; the input reads as it did. -/
def planMakesUptoRow : OpenClaim := { program := "ytjpkjcmphjnbhaa", sum := "a39832e9de5293cc68fad44d56606921221eb27bb868eac8a3525b6cf98c9bf0", func := "ropewalk/ropewalklaw.PlanMakes", spec := "planMakes", unfollowed := true, recurses := true, apart := false, narrowed := true }
def PlanMakesUptoSaid : Prop := planMakesUptoRow.holds Try.pinned (OpenSpec.upto planMakesSpec)

end Rows
end Go.Proofs.Ytjpkjcmphjnbhaa
