/-
  No cell of these rows narrows 'for every input' (looked for: loops, veiled, ifaces, maps, wideKeys, modest, calm, conditions, laid).
  DERIVED. THE GIVEN ROWS OF THIS SEAT. 10 by the template 'for every input the law returns true; each argument reads behind the call as it read before'; 0 by the template 'total and deterministic' (their statements: YtbhjdinjoonngaaTotals.lean).
  GIVEN WITH THE SEED: the statements are not yours to turn. If you find one false, say at which input.
  Laid BY PROGRAM, IN A SANDBOX (cutbox-rows.mjs): the forced cells as the released guide's own fill.sh prints them over the translation e93dae5bc6e7c9bd… (all of the seat's roots in one cut). By AI agents, Wed Nov 11 2026. No macro, syntax, notation, axiom, sorry.
-/
import Derived.Test.YtbhjdinjoonngaaChecked
import GoSem.Claim
import GoSem.ClaimJoined
import GoSem.ClaimMapViews
import Derived.JoinedTies
import Derived.KernelRfl
namespace Go.Proofs.Ytbhjdinjoonngaa
/- THE CELL 'sum', in the pinned program and in every row, IS THE sha256 OF THE DUMP (.gsa) THAT YtbhjdinjoonngaaProg.lean LOADS. Nothing in Lean hashes anything: it is a label: what it is worth is what the hold of that sum in a sandbox is worth. -/
noncomputable def Try.pinned : Pinned := { name := "ytbhjdinjoonngaa", sum := "e93dae5bc6e7c9bdb111b64bbe42bb374d63ac08e34ff8138efb83418c496d9a", checked := Try.checked }
namespace Rows
def none {H : Type} : Left H := { results := [], args := [] }

/-- 'ropewalklaw.FarmRises': WHATEVER THE INPUT: true; the input reads as it did. -/
def farmRisesSpec : ChangeSpec := { name := "farmRises", fn := fun _ => fun
  | [d1, d2] => { results := [.lit (.bool true)], args := [d1, d2] }
  | _ => none }
def farmRisesRow : OpenClaim := { program := "ytbhjdinjoonngaa", sum := "e93dae5bc6e7c9bdb111b64bbe42bb374d63ac08e34ff8138efb83418c496d9a", func := "ropewalk/ropewalklaw.FarmRises", spec := "farmRises", unfollowed := true, recurses := true, apart := false }
def FarmRisesSaid : Prop := farmRisesRow.holds Try.pinned (OpenSpec.ofChange farmRisesSpec)

/-- ITS FALSE NEIGHBOUR: 'it returns false'. Refute it at one input. -/
def farmRisesWrong : ChangeSpec := { name := "farmRises", fn := fun _ => fun
  | [d1, d2] => { results := [.lit (.bool false)], args := [d1, d2] }
  | _ => none }
def FarmRisesWrongFalsely : Prop := farmRisesRow.holds Try.pinned (OpenSpec.ofChange farmRisesWrong)

/-- 'ropewalklaw.FarmNet': WHATEVER THE INPUT: true; the input reads as it did. -/
def farmNetSpec : ChangeSpec := { name := "farmNet", fn := fun _ => fun
  | [d1, d2] => { results := [.lit (.bool true)], args := [d1, d2] }
  | _ => none }
def farmNetRow : OpenClaim := { program := "ytbhjdinjoonngaa", sum := "e93dae5bc6e7c9bdb111b64bbe42bb374d63ac08e34ff8138efb83418c496d9a", func := "ropewalk/ropewalklaw.FarmNet", spec := "farmNet", unfollowed := true, recurses := true, apart := false }
def FarmNetSaid : Prop := farmNetRow.holds Try.pinned (OpenSpec.ofChange farmNetSpec)

/-- ITS FALSE NEIGHBOUR: 'it returns false'. Refute it at one input. -/
def farmNetWrong : ChangeSpec := { name := "farmNet", fn := fun _ => fun
  | [d1, d2] => { results := [.lit (.bool false)], args := [d1, d2] }
  | _ => none }
def FarmNetWrongFalsely : Prop := farmNetRow.holds Try.pinned (OpenSpec.ofChange farmNetWrong)

/-- 'ropewalklaw.FarmHonest': WHATEVER THE INPUT: true; the input reads as it did. -/
def farmHonestSpec : ChangeSpec := { name := "farmHonest", fn := fun _ => fun
  | [d1, d2, d3, d4] => { results := [.lit (.bool true)], args := [d1, d2, d3, d4] }
  | _ => none }
def farmHonestRow : OpenClaim := { program := "ytbhjdinjoonngaa", sum := "e93dae5bc6e7c9bdb111b64bbe42bb374d63ac08e34ff8138efb83418c496d9a", func := "ropewalk/ropewalklaw.FarmHonest", spec := "farmHonest", unfollowed := true, recurses := true, apart := false }
def FarmHonestSaid : Prop := farmHonestRow.holds Try.pinned (OpenSpec.ofChange farmHonestSpec)

/-- ITS FALSE NEIGHBOUR: 'it returns false'. Refute it at one input. -/
def farmHonestWrong : ChangeSpec := { name := "farmHonest", fn := fun _ => fun
  | [d1, d2, d3, d4] => { results := [.lit (.bool false)], args := [d1, d2, d3, d4] }
  | _ => none }
def FarmHonestWrongFalsely : Prop := farmHonestRow.holds Try.pinned (OpenSpec.ofChange farmHonestWrong)

/-- 'ropewalklaw.FarmLives': WHATEVER THE INPUT: true; the input reads as it did. -/
def farmLivesSpec : ChangeSpec := { name := "farmLives", fn := fun _ => fun
  | [d1, d2, d3, d4] => { results := [.lit (.bool true)], args := [d1, d2, d3, d4] }
  | _ => none }
def farmLivesRow : OpenClaim := { program := "ytbhjdinjoonngaa", sum := "e93dae5bc6e7c9bdb111b64bbe42bb374d63ac08e34ff8138efb83418c496d9a", func := "ropewalk/ropewalklaw.FarmLives", spec := "farmLives", unfollowed := true, recurses := true, apart := false }
def FarmLivesSaid : Prop := farmLivesRow.holds Try.pinned (OpenSpec.ofChange farmLivesSpec)

/-- ITS FALSE NEIGHBOUR: 'it returns false'. Refute it at one input. -/
def farmLivesWrong : ChangeSpec := { name := "farmLives", fn := fun _ => fun
  | [d1, d2, d3, d4] => { results := [.lit (.bool false)], args := [d1, d2, d3, d4] }
  | _ => none }
def FarmLivesWrongFalsely : Prop := farmLivesRow.holds Try.pinned (OpenSpec.ofChange farmLivesWrong)

/-- 'ropewalklaw.ArchiveEnds': WHATEVER THE INPUT: true; the input reads as it did. -/
def archiveEndsSpec : ChangeSpec := { name := "archiveEnds", fn := fun _ => fun
  | [d1, d2, d3] => { results := [.lit (.bool true)], args := [d1, d2, d3] }
  | _ => none }
def archiveEndsRow : OpenClaim := { program := "ytbhjdinjoonngaa", sum := "e93dae5bc6e7c9bdb111b64bbe42bb374d63ac08e34ff8138efb83418c496d9a", func := "ropewalk/ropewalklaw.ArchiveEnds", spec := "archiveEnds", unfollowed := true, recurses := true, apart := false }
def ArchiveEndsSaid : Prop := archiveEndsRow.holds Try.pinned (OpenSpec.ofChange archiveEndsSpec)

/-- ITS FALSE NEIGHBOUR: 'it returns false'. Refute it at one input. -/
def archiveEndsWrong : ChangeSpec := { name := "archiveEnds", fn := fun _ => fun
  | [d1, d2, d3] => { results := [.lit (.bool false)], args := [d1, d2, d3] }
  | _ => none }
def ArchiveEndsWrongFalsely : Prop := archiveEndsRow.holds Try.pinned (OpenSpec.ofChange archiveEndsWrong)

/-- 'ropewalklaw.ArchivePlain': WHATEVER THE INPUT: true; the input reads as it did. -/
def archivePlainSpec : ChangeSpec := { name := "archivePlain", fn := fun _ => fun
  | [d1, d2, d3] => { results := [.lit (.bool true)], args := [d1, d2, d3] }
  | _ => none }
def archivePlainRow : OpenClaim := { program := "ytbhjdinjoonngaa", sum := "e93dae5bc6e7c9bdb111b64bbe42bb374d63ac08e34ff8138efb83418c496d9a", func := "ropewalk/ropewalklaw.ArchivePlain", spec := "archivePlain", unfollowed := true, recurses := true, apart := false }
def ArchivePlainSaid : Prop := archivePlainRow.holds Try.pinned (OpenSpec.ofChange archivePlainSpec)

/-- ITS FALSE NEIGHBOUR: 'it returns false'. Refute it at one input. -/
def archivePlainWrong : ChangeSpec := { name := "archivePlain", fn := fun _ => fun
  | [d1, d2, d3] => { results := [.lit (.bool false)], args := [d1, d2, d3] }
  | _ => none }
def ArchivePlainWrongFalsely : Prop := archivePlainRow.holds Try.pinned (OpenSpec.ofChange archivePlainWrong)

/-- 'ropewalklaw.LoadLinked': WHATEVER THE INPUT: true; the input reads as it did. -/
def loadLinkedSpec : ChangeSpec := { name := "loadLinked", fn := fun _ => fun
  | [d1, d2, d3] => { results := [.lit (.bool true)], args := [d1, d2, d3] }
  | _ => none }
def loadLinkedRow : OpenClaim := { program := "ytbhjdinjoonngaa", sum := "e93dae5bc6e7c9bdb111b64bbe42bb374d63ac08e34ff8138efb83418c496d9a", func := "ropewalk/ropewalklaw.LoadLinked", spec := "loadLinked", unfollowed := true, recurses := true, apart := false }
def LoadLinkedSaid : Prop := loadLinkedRow.holds Try.pinned (OpenSpec.ofChange loadLinkedSpec)

/-- ITS FALSE NEIGHBOUR: 'it returns false'. Refute it at one input. -/
def loadLinkedWrong : ChangeSpec := { name := "loadLinked", fn := fun _ => fun
  | [d1, d2, d3] => { results := [.lit (.bool false)], args := [d1, d2, d3] }
  | _ => none }
def LoadLinkedWrongFalsely : Prop := loadLinkedRow.holds Try.pinned (OpenSpec.ofChange loadLinkedWrong)

/-- 'ropewalklaw.LinkFaults': WHATEVER THE INPUT: true; the input reads as it did. -/
def linkFaultsSpec : ChangeSpec := { name := "linkFaults", fn := fun _ => fun
  | [d1, d2, d3] => { results := [.lit (.bool true)], args := [d1, d2, d3] }
  | _ => none }
def linkFaultsRow : OpenClaim := { program := "ytbhjdinjoonngaa", sum := "e93dae5bc6e7c9bdb111b64bbe42bb374d63ac08e34ff8138efb83418c496d9a", func := "ropewalk/ropewalklaw.LinkFaults", spec := "linkFaults", unfollowed := true, recurses := true, apart := false }
def LinkFaultsSaid : Prop := linkFaultsRow.holds Try.pinned (OpenSpec.ofChange linkFaultsSpec)

/-- ITS FALSE NEIGHBOUR: 'it returns false'. Refute it at one input. -/
def linkFaultsWrong : ChangeSpec := { name := "linkFaults", fn := fun _ => fun
  | [d1, d2, d3] => { results := [.lit (.bool false)], args := [d1, d2, d3] }
  | _ => none }
def LinkFaultsWrongFalsely : Prop := linkFaultsRow.holds Try.pinned (OpenSpec.ofChange linkFaultsWrong)

/-- 'ropewalklaw.LinkPlaces': WHATEVER THE INPUT: true; the input reads as it did. -/
def linkPlacesSpec : ChangeSpec := { name := "linkPlaces", fn := fun _ => fun
  | [d1, d2, d3] => { results := [.lit (.bool true)], args := [d1, d2, d3] }
  | _ => none }
def linkPlacesRow : OpenClaim := { program := "ytbhjdinjoonngaa", sum := "e93dae5bc6e7c9bdb111b64bbe42bb374d63ac08e34ff8138efb83418c496d9a", func := "ropewalk/ropewalklaw.LinkPlaces", spec := "linkPlaces", unfollowed := true, recurses := true, apart := false }
def LinkPlacesSaid : Prop := linkPlacesRow.holds Try.pinned (OpenSpec.ofChange linkPlacesSpec)

/-- ITS FALSE NEIGHBOUR: 'it returns false'. Refute it at one input. -/
def linkPlacesWrong : ChangeSpec := { name := "linkPlaces", fn := fun _ => fun
  | [d1, d2, d3] => { results := [.lit (.bool false)], args := [d1, d2, d3] }
  | _ => none }
def LinkPlacesWrongFalsely : Prop := linkPlacesRow.holds Try.pinned (OpenSpec.ofChange linkPlacesWrong)

/-- 'ropewalklaw.LinkTaken': WHATEVER THE INPUT: true; the input reads as it did. -/
def linkTakenSpec : ChangeSpec := { name := "linkTaken", fn := fun _ => fun
  | [d1, d2, d3] => { results := [.lit (.bool true)], args := [d1, d2, d3] }
  | _ => none }
def linkTakenRow : OpenClaim := { program := "ytbhjdinjoonngaa", sum := "e93dae5bc6e7c9bdb111b64bbe42bb374d63ac08e34ff8138efb83418c496d9a", func := "ropewalk/ropewalklaw.LinkTaken", spec := "linkTaken", unfollowed := true, recurses := true, apart := false }
def LinkTakenSaid : Prop := linkTakenRow.holds Try.pinned (OpenSpec.ofChange linkTakenSpec)

/-- ITS FALSE NEIGHBOUR: 'it returns false'. Refute it at one input. -/
def linkTakenWrong : ChangeSpec := { name := "linkTaken", fn := fun _ => fun
  | [d1, d2, d3] => { results := [.lit (.bool false)], args := [d1, d2, d3] }
  | _ => none }
def LinkTakenWrongFalsely : Prop := linkTakenRow.holds Try.pinned (OpenSpec.ofChange linkTakenWrong)

/- THE SECOND FORM. 'bulk': how many values and letters a reading holds, each counted each time it is reached (what is shared counts as often as it is met; a slice's spare places count too). A statement '..UptoSaid' is the law's where the arguments, and the package variables that the reading takes, are together of bulk at most 1048576: NARROWER than '..Said'. Prove '..Said' where nothing that the law and all that it calls make is longer than what came in: it says more and counts as full. Else prove '..UptoSaid'. A law counts once. -/
mutual
def uptoBulk {H : Type} : DataW H → Nat
  | .lit (.string bytes) => bytes.length + 1
  | .lit _ => 1
  | .nil => 1
  | .ptr d => uptoBulk d + 1
  | .slice elems spare => uptoBulkAll elems + uptoBulkAll spare + 1
  | .agg parts => uptoBulkAll parts + 1
  | .iface _ d => uptoBulk d + 1
  | .map entries => uptoBulkEntries entries + 1
  | .held _ => 1
def uptoBulkAll {H : Type} : List (DataW H) → Nat
  | [] => 0
  | d :: r => uptoBulk d + uptoBulkAll r
def uptoBulkEntries {H : Type} : List (Lit × DataW H) → Nat
  | [] => 0
  | x :: r => uptoBulkEntry x + uptoBulkEntries r
def uptoBulkEntry {H : Type} : Lit × DataW H → Nat
  | (.string bytes, d) => bytes.length + uptoBulk d + 1
  | (_, d) => uptoBulk d + 1
 end
def uptoSmall : (H : Type) → List (DataW H) → Bool := fun _ ds => decide (uptoBulkAll ds ≤ 1048576)
def OpenSpec.upto (s : _root_.Go.ChangeSpec) : _root_.Go.OpenSpec := { _root_.Go.OpenSpec.ofChange s with cond := some uptoSmall }

/-- 'ropewalklaw.FarmRises', WHERE WHAT IT READS IS OF BULK AT MOST 1048576: true; the input reads as it did. -/
def farmRisesUptoRow : OpenClaim := { program := "ytbhjdinjoonngaa", sum := "e93dae5bc6e7c9bdb111b64bbe42bb374d63ac08e34ff8138efb83418c496d9a", func := "ropewalk/ropewalklaw.FarmRises", spec := "farmRises", unfollowed := true, recurses := true, apart := false, narrowed := true }
def FarmRisesUptoSaid : Prop := farmRisesUptoRow.holds Try.pinned (OpenSpec.upto farmRisesSpec)

/-- 'ropewalklaw.FarmNet', WHERE WHAT IT READS IS OF BULK AT MOST 1048576: true; the input reads as it did. -/
def farmNetUptoRow : OpenClaim := { program := "ytbhjdinjoonngaa", sum := "e93dae5bc6e7c9bdb111b64bbe42bb374d63ac08e34ff8138efb83418c496d9a", func := "ropewalk/ropewalklaw.FarmNet", spec := "farmNet", unfollowed := true, recurses := true, apart := false, narrowed := true }
def FarmNetUptoSaid : Prop := farmNetUptoRow.holds Try.pinned (OpenSpec.upto farmNetSpec)

/-- 'ropewalklaw.FarmHonest', WHERE WHAT IT READS IS OF BULK AT MOST 1048576: true; the input reads as it did. -/
def farmHonestUptoRow : OpenClaim := { program := "ytbhjdinjoonngaa", sum := "e93dae5bc6e7c9bdb111b64bbe42bb374d63ac08e34ff8138efb83418c496d9a", func := "ropewalk/ropewalklaw.FarmHonest", spec := "farmHonest", unfollowed := true, recurses := true, apart := false, narrowed := true }
def FarmHonestUptoSaid : Prop := farmHonestUptoRow.holds Try.pinned (OpenSpec.upto farmHonestSpec)

/-- 'ropewalklaw.FarmLives', WHERE WHAT IT READS IS OF BULK AT MOST 1048576: true; the input reads as it did. -/
def farmLivesUptoRow : OpenClaim := { program := "ytbhjdinjoonngaa", sum := "e93dae5bc6e7c9bdb111b64bbe42bb374d63ac08e34ff8138efb83418c496d9a", func := "ropewalk/ropewalklaw.FarmLives", spec := "farmLives", unfollowed := true, recurses := true, apart := false, narrowed := true }
def FarmLivesUptoSaid : Prop := farmLivesUptoRow.holds Try.pinned (OpenSpec.upto farmLivesSpec)

/-- 'ropewalklaw.ArchiveEnds', WHERE WHAT IT READS IS OF BULK AT MOST 1048576: true; the input reads as it did. -/
def archiveEndsUptoRow : OpenClaim := { program := "ytbhjdinjoonngaa", sum := "e93dae5bc6e7c9bdb111b64bbe42bb374d63ac08e34ff8138efb83418c496d9a", func := "ropewalk/ropewalklaw.ArchiveEnds", spec := "archiveEnds", unfollowed := true, recurses := true, apart := false, narrowed := true }
def ArchiveEndsUptoSaid : Prop := archiveEndsUptoRow.holds Try.pinned (OpenSpec.upto archiveEndsSpec)

/-- 'ropewalklaw.ArchivePlain', WHERE WHAT IT READS IS OF BULK AT MOST 1048576: true; the input reads as it did. -/
def archivePlainUptoRow : OpenClaim := { program := "ytbhjdinjoonngaa", sum := "e93dae5bc6e7c9bdb111b64bbe42bb374d63ac08e34ff8138efb83418c496d9a", func := "ropewalk/ropewalklaw.ArchivePlain", spec := "archivePlain", unfollowed := true, recurses := true, apart := false, narrowed := true }
def ArchivePlainUptoSaid : Prop := archivePlainUptoRow.holds Try.pinned (OpenSpec.upto archivePlainSpec)

/-- 'ropewalklaw.LoadLinked', WHERE WHAT IT READS IS OF BULK AT MOST 1048576: true; the input reads as it did. -/
def loadLinkedUptoRow : OpenClaim := { program := "ytbhjdinjoonngaa", sum := "e93dae5bc6e7c9bdb111b64bbe42bb374d63ac08e34ff8138efb83418c496d9a", func := "ropewalk/ropewalklaw.LoadLinked", spec := "loadLinked", unfollowed := true, recurses := true, apart := false, narrowed := true }
def LoadLinkedUptoSaid : Prop := loadLinkedUptoRow.holds Try.pinned (OpenSpec.upto loadLinkedSpec)

/-- 'ropewalklaw.LinkFaults', WHERE WHAT IT READS IS OF BULK AT MOST 1048576: true; the input reads as it did. -/
def linkFaultsUptoRow : OpenClaim := { program := "ytbhjdinjoonngaa", sum := "e93dae5bc6e7c9bdb111b64bbe42bb374d63ac08e34ff8138efb83418c496d9a", func := "ropewalk/ropewalklaw.LinkFaults", spec := "linkFaults", unfollowed := true, recurses := true, apart := false, narrowed := true }
def LinkFaultsUptoSaid : Prop := linkFaultsUptoRow.holds Try.pinned (OpenSpec.upto linkFaultsSpec)

/-- 'ropewalklaw.LinkPlaces', WHERE WHAT IT READS IS OF BULK AT MOST 1048576: true; the input reads as it did. -/
def linkPlacesUptoRow : OpenClaim := { program := "ytbhjdinjoonngaa", sum := "e93dae5bc6e7c9bdb111b64bbe42bb374d63ac08e34ff8138efb83418c496d9a", func := "ropewalk/ropewalklaw.LinkPlaces", spec := "linkPlaces", unfollowed := true, recurses := true, apart := false, narrowed := true }
def LinkPlacesUptoSaid : Prop := linkPlacesUptoRow.holds Try.pinned (OpenSpec.upto linkPlacesSpec)

/-- 'ropewalklaw.LinkTaken', WHERE WHAT IT READS IS OF BULK AT MOST 1048576: true; the input reads as it did. -/
def linkTakenUptoRow : OpenClaim := { program := "ytbhjdinjoonngaa", sum := "e93dae5bc6e7c9bdb111b64bbe42bb374d63ac08e34ff8138efb83418c496d9a", func := "ropewalk/ropewalklaw.LinkTaken", spec := "linkTaken", unfollowed := true, recurses := true, apart := false, narrowed := true }
def LinkTakenUptoSaid : Prop := linkTakenUptoRow.holds Try.pinned (OpenSpec.upto linkTakenSpec)

end Rows
end Go.Proofs.Ytbhjdinjoonngaa
