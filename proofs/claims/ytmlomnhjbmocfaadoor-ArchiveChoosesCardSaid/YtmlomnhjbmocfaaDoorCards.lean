/-
  DERIVED. GIVEN WITH THE SEED: THE CARDS: each row of YtmlomnhjbmocfaaDoorRows.lean that lists a variable, with what it lists TIED to the program's text (the seventh form; the later family's looks); each row that meets fmt, with fmt's text TOLD by the authors' own Lean function (tested against real Go, not proved from fmt's source: count such statements apart). THE CARD IS WHAT COUNTS. Prove the row's statement (the work); the ties are given (YtmlomnhjbmocfaaDoorTie.lean); close each card by the builder's one call (the guide's Derived/Test/ToyasCard.lean, 'card_holds'). Laid BY PROGRAM, IN A SANDBOX (cutbox-door.mjs). By AI agents, Wed Nov 11 2026. No macro, syntax, notation, axiom, sorry.
-/
import Derived.Test.YtmlomnhjbmocfaaDoorRows
import GoSem.ClaimSeven
namespace Go.Proofs.YtmlomnhjbmocfaaDoor
namespace Rows

/-- THE TIED CARD OF 'ropewalklaw.LayoutLays'. -/
def layoutLaysCard : Claim7 := { stood := { row := layoutLaysRow, standIns := [], harness := (true, "2fa8e61143f3ff986ab8b5d1bb06c953880207d4f2e617db426030972f5f99d8"), looks := true }, kinds := [], alts := [], laidByText := true, laidKinds := [.data, .pinned], laidTests := true, laidLooks := .later }
def LayoutLaysCardSaid : Prop := Claim7.holds Tryd.pinned (.plain (OpenSpec.ofChange layoutLaysSpec)) layoutLaysCard

/-- THE TIED CARD OF 'ropewalklaw.ArchiveChooses'. -/
def archiveChoosesCard : Claim7 := { stood := { row := archiveChoosesRow, standIns := [], harness := (true, "2fa8e61143f3ff986ab8b5d1bb06c953880207d4f2e617db426030972f5f99d8"), looks := true }, kinds := [], alts := [], laidByText := true, laidKinds := [.data, .pinned], laidTests := true, laidLooks := .later }
def ArchiveChoosesCardSaid : Prop := Claim7.holds Tryd.pinned (.plain (OpenSpec.ofChange archiveChoosesSpec)) archiveChoosesCard

/-- THE TIED CARD OF 'ropewalklaw.ScriptBack'. -/
def scriptBackCard : Claim7 := { stood := { row := scriptBackRow, standIns := [], harness := (true, "2fa8e61143f3ff986ab8b5d1bb06c953880207d4f2e617db426030972f5f99d8"), looks := true }, kinds := [], alts := [], laidByText := true, laidKinds := [.data, .data, .data, .data, .sentinel, .sentinel, .pinned], laidTests := true, laidLooks := .later }
def ScriptBackCardSaid : Prop := Claim7.holds Tryd.pinned (.plain (OpenSpec.ofChange scriptBackSpec)) scriptBackCard

/-- THE TIED CARD OF 'ropewalklaw.ScriptApart'. -/
def scriptApartCard : Claim7 := { stood := { row := scriptApartRow, standIns := [], harness := (true, "2fa8e61143f3ff986ab8b5d1bb06c953880207d4f2e617db426030972f5f99d8"), looks := true }, kinds := [], alts := [], laidByText := true, laidKinds := [.data, .data, .data, .data, .sentinel, .sentinel, .pinned], laidTests := true, laidLooks := .later }
def ScriptApartCardSaid : Prop := Claim7.holds Tryd.pinned (.plain (OpenSpec.ofChange scriptApartSpec)) scriptApartCard

/-- THE SECOND FORM's CARD OF 'ropewalklaw.LayoutLays'. -/
def layoutLaysUptoCard : Claim7 := { stood := { row := layoutLaysUptoRow, standIns := [], harness := (true, "2fa8e61143f3ff986ab8b5d1bb06c953880207d4f2e617db426030972f5f99d8"), looks := true }, kinds := [], alts := [], laidByText := true, laidKinds := [.data, .pinned], laidTests := true, laidLooks := .later }
def LayoutLaysUptoCardSaid : Prop := Claim7.holds Tryd.pinned (.plain (OpenSpec.upto layoutLaysSpec)) layoutLaysUptoCard

/-- THE SECOND FORM's CARD OF 'ropewalklaw.ArchiveChooses'. -/
def archiveChoosesUptoCard : Claim7 := { stood := { row := archiveChoosesUptoRow, standIns := [], harness := (true, "2fa8e61143f3ff986ab8b5d1bb06c953880207d4f2e617db426030972f5f99d8"), looks := true }, kinds := [], alts := [], laidByText := true, laidKinds := [.data, .pinned], laidTests := true, laidLooks := .later }
def ArchiveChoosesUptoCardSaid : Prop := Claim7.holds Tryd.pinned (.plain (OpenSpec.upto archiveChoosesSpec)) archiveChoosesUptoCard

/-- THE SECOND FORM's CARD OF 'ropewalklaw.ScriptBack'. -/
def scriptBackUptoCard : Claim7 := { stood := { row := scriptBackUptoRow, standIns := [], harness := (true, "2fa8e61143f3ff986ab8b5d1bb06c953880207d4f2e617db426030972f5f99d8"), looks := true }, kinds := [], alts := [], laidByText := true, laidKinds := [.data, .data, .data, .data, .sentinel, .sentinel, .pinned], laidTests := true, laidLooks := .later }
def ScriptBackUptoCardSaid : Prop := Claim7.holds Tryd.pinned (.plain (OpenSpec.upto scriptBackSpec)) scriptBackUptoCard

/-- THE SECOND FORM's CARD OF 'ropewalklaw.ScriptApart'. -/
def scriptApartUptoCard : Claim7 := { stood := { row := scriptApartUptoRow, standIns := [], harness := (true, "2fa8e61143f3ff986ab8b5d1bb06c953880207d4f2e617db426030972f5f99d8"), looks := true }, kinds := [], alts := [], laidByText := true, laidKinds := [.data, .data, .data, .data, .sentinel, .sentinel, .pinned], laidTests := true, laidLooks := .later }
def ScriptApartUptoCardSaid : Prop := Claim7.holds Tryd.pinned (.plain (OpenSpec.upto scriptApartSpec)) scriptApartUptoCard
end Rows
end Go.Proofs.YtmlomnhjbmocfaaDoor
