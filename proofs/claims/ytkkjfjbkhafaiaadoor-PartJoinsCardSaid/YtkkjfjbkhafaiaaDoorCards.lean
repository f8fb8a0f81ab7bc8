/-
  DERIVED. GIVEN WITH THE SEED: THE CARDS: each row of YtkkjfjbkhafaiaaDoorRows.lean that lists a variable, with what it lists TIED to the program's text (the seventh form; the later family's looks); each row that meets fmt, with fmt's text TOLD by the authors' own Lean function (tested against real Go, not proved from fmt's source: count such statements apart). THE CARD IS WHAT COUNTS. Prove the row's statement (the work); the ties are given (YtkkjfjbkhafaiaaDoorTie.lean); close each card by the builder's one call (the guide's Derived/Test/ToyasCard.lean, 'card_holds'). Laid BY PROGRAM, IN A SANDBOX (cutbox-door.mjs). By AI agents, Wed Nov 11 2026. No macro, syntax, notation, axiom, sorry.
-/
import Derived.Test.YtkkjfjbkhafaiaaDoorRows
import GoSem.ClaimSeven
namespace Go.Proofs.YtkkjfjbkhafaiaaDoor
namespace Rows

/-- THE TIED CARD OF 'ropewalklaw.ObjChecks'. -/
def objChecksCard : Claim7 := { stood := { row := objChecksRow, standIns := [], harness := (true, "8a36a0a5cd4dea280e86d1c3f9ebbb50c3cc6e78816fc00774ad26f7ebb4626f"), looks := false }, kinds := [], alts := [], laidByText := true, laidKinds := [.data, .pinned], laidTests := true, laidLooks := .later }
def ObjChecksCardSaid : Prop := Claim7.holds Tryd.pinned (.plain (OpenSpec.ofChange objChecksSpec)) objChecksCard

/-- THE TIED CARD OF 'ropewalklaw.PartDrops'. -/
def partDropsCard : Claim7 := { stood := { row := partDropsRow, standIns := [], harness := (true, "8a36a0a5cd4dea280e86d1c3f9ebbb50c3cc6e78816fc00774ad26f7ebb4626f"), looks := false }, kinds := [], alts := [], laidByText := true, laidKinds := [.data, .pinned], laidTests := true, laidLooks := .later }
def PartDropsCardSaid : Prop := Claim7.holds Tryd.pinned (.plain (OpenSpec.ofChange partDropsSpec)) partDropsCard

/-- THE TIED CARD OF 'ropewalklaw.PartJoins'. -/
def partJoinsCard : Claim7 := { stood := { row := partJoinsRow, standIns := [], harness := (true, "8a36a0a5cd4dea280e86d1c3f9ebbb50c3cc6e78816fc00774ad26f7ebb4626f"), looks := false }, kinds := [], alts := [], laidByText := true, laidKinds := [.data, .pinned], laidTests := true, laidLooks := .later }
def PartJoinsCardSaid : Prop := Claim7.holds Tryd.pinned (.plain (OpenSpec.ofChange partJoinsSpec)) partJoinsCard

/-- THE TIED CARD OF 'ropewalklaw.PlanSays'. -/
def planSaysCard : Claim7 := { stood := { row := planSaysRow, standIns := [], harness := (true, "8a36a0a5cd4dea280e86d1c3f9ebbb50c3cc6e78816fc00774ad26f7ebb4626f"), looks := false }, kinds := [], alts := [], laidByText := true, laidKinds := [.data, .pinned], laidTests := true, laidLooks := .later }
def PlanSaysCardSaid : Prop := Claim7.holds Tryd.pinned (.plain (OpenSpec.ofChange planSaysSpec)) planSaysCard

/-- THE SECOND FORM's CARD OF 'ropewalklaw.ObjChecks'. -/
def objChecksUptoCard : Claim7 := { stood := { row := objChecksUptoRow, standIns := [], harness := (true, "8a36a0a5cd4dea280e86d1c3f9ebbb50c3cc6e78816fc00774ad26f7ebb4626f"), looks := false }, kinds := [], alts := [], laidByText := true, laidKinds := [.data, .pinned], laidTests := true, laidLooks := .later }
def ObjChecksUptoCardSaid : Prop := Claim7.holds Tryd.pinned (.plain (OpenSpec.upto objChecksSpec)) objChecksUptoCard

/-- THE SECOND FORM's CARD OF 'ropewalklaw.PartDrops'. -/
def partDropsUptoCard : Claim7 := { stood := { row := partDropsUptoRow, standIns := [], harness := (true, "8a36a0a5cd4dea280e86d1c3f9ebbb50c3cc6e78816fc00774ad26f7ebb4626f"), looks := false }, kinds := [], alts := [], laidByText := true, laidKinds := [.data, .pinned], laidTests := true, laidLooks := .later }
def PartDropsUptoCardSaid : Prop := Claim7.holds Tryd.pinned (.plain (OpenSpec.upto partDropsSpec)) partDropsUptoCard

/-- THE SECOND FORM's CARD OF 'ropewalklaw.PartJoins'. -/
def partJoinsUptoCard : Claim7 := { stood := { row := partJoinsUptoRow, standIns := [], harness := (true, "8a36a0a5cd4dea280e86d1c3f9ebbb50c3cc6e78816fc00774ad26f7ebb4626f"), looks := false }, kinds := [], alts := [], laidByText := true, laidKinds := [.data, .pinned], laidTests := true, laidLooks := .later }
def PartJoinsUptoCardSaid : Prop := Claim7.holds Tryd.pinned (.plain (OpenSpec.upto partJoinsSpec)) partJoinsUptoCard

/-- THE SECOND FORM's CARD OF 'ropewalklaw.PlanSays'. -/
def planSaysUptoCard : Claim7 := { stood := { row := planSaysUptoRow, standIns := [], harness := (true, "8a36a0a5cd4dea280e86d1c3f9ebbb50c3cc6e78816fc00774ad26f7ebb4626f"), looks := false }, kinds := [], alts := [], laidByText := true, laidKinds := [.data, .pinned], laidTests := true, laidLooks := .later }
def PlanSaysUptoCardSaid : Prop := Claim7.holds Tryd.pinned (.plain (OpenSpec.upto planSaysSpec)) planSaysUptoCard
end Rows
end Go.Proofs.YtkkjfjbkhafaiaaDoor
