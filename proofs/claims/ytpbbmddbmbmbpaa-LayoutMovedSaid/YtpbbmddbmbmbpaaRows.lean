/-
  No cell of these rows narrows 'for every input' (looked for: loops, veiled, ifaces, maps, wideKeys, modest, calm, conditions, laid).
  DERIVED. THE GIVEN ROWS OF THIS SEAT. 11 by the template 'for every input the law returns true; each argument reads behind the call as it read before'; 0 by the template 'total and deterministic' (their statements: YtpbbmddbmbmbpaaTotals.lean).
  GIVEN WITH THE SEED: the statements are not yours to turn. If you find one false, say at which input.
  Laid BY PROGRAM, IN A SANDBOX (cutbox-rows.mjs): the forced cells as the released guide's own fill.sh prints them over the translation 9042d8f431e7b18f… (all of the seat's roots in one cut). By AI agents, Wed Nov 11 2026. No macro, syntax, notation, axiom, sorry.
-/
import Derived.Test.YtpbbmddbmbmbpaaChecked
import GoSem.Claim
import GoSem.ClaimJoined
import GoSem.ClaimMapViews
import Derived.JoinedTies
import Derived.KernelRfl
namespace Go.Proofs.Ytpbbmddbmbmbpaa
/- THE CELL 'sum', in the pinned program and in every row, IS THE sha256 OF THE DUMP (.gsa) THAT YtpbbmddbmbmbpaaProg.lean LOADS. Nothing in Lean hashes anything: it is a label: what it is worth is what the hold of that sum in a sandbox is worth. -/
noncomputable def Try.pinned : Pinned := { name := "ytpbbmddbmbmbpaa", sum := "9042d8f431e7b18f23331a6ebb35672229e38e59856efa2dc08fad21aac3d1d1", checked := Try.checked }
namespace Rows
def none {H : Type} : Left H := { results := [], args := [] }

/-- 'ropewalklaw.FarmRises': WHATEVER THE INPUT: true; the input reads as it did. -/
def farmRisesSpec : ChangeSpec := { name := "farmRises", fn := fun _ => fun
  | [d1, d2] => { results := [.lit (.bool true)], args := [d1, d2] }
  | _ => none }
def farmRisesRow : OpenClaim := { program := "ytpbbmddbmbmbpaa", sum := "9042d8f431e7b18f23331a6ebb35672229e38e59856efa2dc08fad21aac3d1d1", func := "ropewalk/ropewalklaw.FarmRises", spec := "farmRises", unfollowed := true, recurses := true, apart := false }
def FarmRisesSaid : Prop := farmRisesRow.holds Try.pinned (OpenSpec.ofChange farmRisesSpec)

/-- ITS FALSE NEIGHBOUR: 'it returns false'. Refute it at one input. -/
def farmRisesWrong : ChangeSpec := { name := "farmRises", fn := fun _ => fun
  | [d1, d2] => { results := [.lit (.bool false)], args := [d1, d2] }
  | _ => none }
def FarmRisesWrongFalsely : Prop := farmRisesRow.holds Try.pinned (OpenSpec.ofChange farmRisesWrong)

/-- 'ropewalklaw.FarmNet': WHATEVER THE INPUT: true; the input reads as it did. -/
def farmNetSpec : ChangeSpec := { name := "farmNet", fn := fun _ => fun
  | [d1, d2] => { results := [.lit (.bool true)], args := [d1, d2] }
  | _ => none }
def farmNetRow : OpenClaim := { program := "ytpbbmddbmbmbpaa", sum := "9042d8f431e7b18f23331a6ebb35672229e38e59856efa2dc08fad21aac3d1d1", func := "ropewalk/ropewalklaw.FarmNet", spec := "farmNet", unfollowed := true, recurses := true, apart := false }
def FarmNetSaid : Prop := farmNetRow.holds Try.pinned (OpenSpec.ofChange farmNetSpec)

/-- ITS FALSE NEIGHBOUR: 'it returns false'. Refute it at one input. -/
def farmNetWrong : ChangeSpec := { name := "farmNet", fn := fun _ => fun
  | [d1, d2] => { results := [.lit (.bool false)], args := [d1, d2] }
  | _ => none }
def FarmNetWrongFalsely : Prop := farmNetRow.holds Try.pinned (OpenSpec.ofChange farmNetWrong)

/-- 'ropewalklaw.FarmHonest': WHATEVER THE INPUT: true; the input reads as it did. -/
def farmHonestSpec : ChangeSpec := { name := "farmHonest", fn := fun _ => fun
  | [d1, d2, d3, d4] => { results := [.lit (.bool true)], args := [d1, d2, d3, d4] }
  | _ => none }
def farmHonestRow : OpenClaim := { program := "ytpbbmddbmbmbpaa", sum := "9042d8f431e7b18f23331a6ebb35672229e38e59856efa2dc08fad21aac3d1d1", func := "ropewalk/ropewalklaw.FarmHonest", spec := "farmHonest", unfollowed := true, recurses := true, apart := false }
def FarmHonestSaid : Prop := farmHonestRow.holds Try.pinned (OpenSpec.ofChange farmHonestSpec)

/-- ITS FALSE NEIGHBOUR: 'it returns false'. Refute it at one input. -/
def farmHonestWrong : ChangeSpec := { name := "farmHonest", fn := fun _ => fun
  | [d1, d2, d3, d4] => { results := [.lit (.bool false)], args := [d1, d2, d3, d4] }
  | _ => none }
def FarmHonestWrongFalsely : Prop := farmHonestRow.holds Try.pinned (OpenSpec.ofChange farmHonestWrong)

/-- 'ropewalklaw.LayoutMoved': WHATEVER THE INPUT: true; the input reads as it did. -/
def layoutMovedSpec : ChangeSpec := { name := "layoutMoved", fn := fun _ => fun
  | [d1, d2, d3] => { results := [.lit (.bool true)], args := [d1, d2, d3] }
  | _ => none }
def layoutMovedRow : OpenClaim := { program := "ytpbbmddbmbmbpaa", sum := "9042d8f431e7b18f23331a6ebb35672229e38e59856efa2dc08fad21aac3d1d1", func := "ropewalk/ropewalklaw.LayoutMoved", spec := "layoutMoved", recurses := true, apart := false }
def LayoutMovedSaid : Prop := layoutMovedRow.holds Try.pinned (OpenSpec.ofChange layoutMovedSpec)

/-- ITS FALSE NEIGHBOUR: 'it returns false'. Refute it at one input. -/
def layoutMovedWrong : ChangeSpec := { name := "layoutMoved", fn := fun _ => fun
  | [d1, d2, d3] => { results := [.lit (.bool false)], args := [d1, d2, d3] }
  | _ => none }
def LayoutMovedWrongFalsely : Prop := layoutMovedRow.holds Try.pinned (OpenSpec.ofChange layoutMovedWrong)

/-- 'ropewalklaw.LayoutApart': WHATEVER THE INPUT: true; the input reads as it did. -/
def layoutApartSpec : ChangeSpec := { name := "layoutApart", fn := fun _ => fun
  | [d1, d2] => { results := [.lit (.bool true)], args := [d1, d2] }
  | _ => none }
def layoutApartRow : OpenClaim := { program := "ytpbbmddbmbmbpaa", sum := "9042d8f431e7b18f23331a6ebb35672229e38e59856efa2dc08fad21aac3d1d1", func := "ropewalk/ropewalklaw.LayoutApart", spec := "layoutApart", recurses := true, apart := false }
def LayoutApartSaid : Prop := layoutApartRow.holds Try.pinned (OpenSpec.ofChange layoutApartSpec)

/-- ITS FALSE NEIGHBOUR: 'it returns false'. Refute it at one input. -/
def layoutApartWrong : ChangeSpec := { name := "layoutApart", fn := fun _ => fun
  | [d1, d2] => { results := [.lit (.bool false)], args := [d1, d2] }
  | _ => none }
def LayoutApartWrongFalsely : Prop := layoutApartRow.holds Try.pinned (OpenSpec.ofChange layoutApartWrong)

/-- 'ropewalklaw.FarmLives': WHATEVER THE INPUT: true; the input reads as it did. -/
def farmLivesSpec : ChangeSpec := { name := "farmLives", fn := fun _ => fun
  | [d1, d2, d3, d4] => { results := [.lit (.bool true)], args := [d1, d2, d3, d4] }
  | _ => none }
def farmLivesRow : OpenClaim := { program := "ytpbbmddbmbmbpaa", sum := "9042d8f431e7b18f23331a6ebb35672229e38e59856efa2dc08fad21aac3d1d1", func := "ropewalk/ropewalklaw.FarmLives", spec := "farmLives", unfollowed := true, recurses := true, apart := false }
def FarmLivesSaid : Prop := farmLivesRow.holds Try.pinned (OpenSpec.ofChange farmLivesSpec)

/-- ITS FALSE NEIGHBOUR: 'it returns false'. Refute it at one input. -/
def farmLivesWrong : ChangeSpec := { name := "farmLives", fn := fun _ => fun
  | [d1, d2, d3, d4] => { results := [.lit (.bool false)], args := [d1, d2, d3, d4] }
  | _ => none }
def FarmLivesWrongFalsely : Prop := farmLivesRow.holds Try.pinned (OpenSpec.ofChange farmLivesWrong)

/-- 'ropewalklaw.ArchiveEnds': WHATEVER THE INPUT: true; the input reads as it did. -/
def archiveEndsSpec : ChangeSpec := { name := "archiveEnds", fn := fun _ => fun
  | [d1, d2, d3] => { results := [.lit (.bool true)], args := [d1, d2, d3] }
  | _ => none }
def archiveEndsRow : OpenClaim := { program := "ytpbbmddbmbmbpaa", sum := "9042d8f431e7b18f23331a6ebb35672229e38e59856efa2dc08fad21aac3d1d1", func := "ropewalk/ropewalklaw.ArchiveEnds", spec := "archiveEnds", unfollowed := true, recurses := true, apart := false }
def ArchiveEndsSaid : Prop := archiveEndsRow.holds Try.pinned (OpenSpec.ofChange archiveEndsSpec)

/-- ITS FALSE NEIGHBOUR: 'it returns false'. Refute it at one input. -/
def archiveEndsWrong : ChangeSpec := { name := "archiveEnds", fn := fun _ => fun
  | [d1, d2, d3] => { results := [.lit (.bool false)], args := [d1, d2, d3] }
  | _ => none }
def ArchiveEndsWrongFalsely : Prop := archiveEndsRow.holds Try.pinned (OpenSpec.ofChange archiveEndsWrong)

/-- 'ropewalklaw.ArchivePlain': WHATEVER THE INPUT: true; the input reads as it did. -/
def archivePlainSpec : ChangeSpec := { name := "archivePlain", fn := fun _ => fun
  | [d1, d2, d3] => { results := [.lit (.bool true)], args := [d1, d2, d3] }
  | _ => none }
def archivePlainRow : OpenClaim := { program := "ytpbbmddbmbmbpaa", sum := "9042d8f431e7b18f23331a6ebb35672229e38e59856efa2dc08fad21aac3d1d1", func := "ropewalk/ropewalklaw.ArchivePlain", spec := "archivePlain", unfollowed := true, recurses := true, apart := false }
def ArchivePlainSaid : Prop := archivePlainRow.holds Try.pinned (OpenSpec.ofChange archivePlainSpec)

/-- ITS FALSE NEIGHBOUR: 'it returns false'. Refute it at one input. -/
def archivePlainWrong : ChangeSpec := { name := "archivePlain", fn := fun _ => fun
  | [d1, d2, d3] => { results := [.lit (.bool false)], args := [d1, d2, d3] }
  | _ => none }
def ArchivePlainWrongFalsely : Prop := archivePlainRow.holds Try.pinned (OpenSpec.ofChange archivePlainWrong)

/-- 'ropewalklaw.NamesJoined': WHATEVER THE INPUT: true; the input reads as it did. -/
def namesJoinedSpec : ChangeSpec := { name := "namesJoined", fn := fun _ => fun
  | [d1, d2, d3] => { results := [.lit (.bool true)], args := [d1, d2, d3] }
  | _ => none }
def namesJoinedRow : OpenClaim := { program := "ytpbbmddbmbmbpaa", sum := "9042d8f431e7b18f23331a6ebb35672229e38e59856efa2dc08fad21aac3d1d1", func := "ropewalk/ropewalklaw.NamesJoined", spec := "namesJoined", recurses := true, apart := false }
def NamesJoinedSaid : Prop := namesJoinedRow.holds Try.pinned (OpenSpec.ofChange namesJoinedSpec)

/-- ITS FALSE NEIGHBOUR: 'it returns false'. Refute it at one input. -/
def namesJoinedWrong : ChangeSpec := { name := "namesJoined", fn := fun _ => fun
  | [d1, d2, d3] => { results := [.lit (.bool false)], args := [d1, d2, d3] }
  | _ => none }
def NamesJoinedWrongFalsely : Prop := namesJoinedRow.holds Try.pinned (OpenSpec.ofChange namesJoinedWrong)

/-- 'ropewalklaw.LayoutJoined': WHATEVER THE INPUT: true; the input reads as it did. -/
def layoutJoinedSpec : ChangeSpec := { name := "layoutJoined", fn := fun _ => fun
  | [d1, d2, d3] => { results := [.lit (.bool true)], args := [d1, d2, d3] }
  | _ => none }
def layoutJoinedRow : OpenClaim := { program := "ytpbbmddbmbmbpaa", sum := "9042d8f431e7b18f23331a6ebb35672229e38e59856efa2dc08fad21aac3d1d1", func := "ropewalk/ropewalklaw.LayoutJoined", spec := "layoutJoined", recurses := true, apart := false }
def LayoutJoinedSaid : Prop := layoutJoinedRow.holds Try.pinned (OpenSpec.ofChange layoutJoinedSpec)

/-- ITS FALSE NEIGHBOUR: 'it returns false'. Refute it at one input. -/
def layoutJoinedWrong : ChangeSpec := { name := "layoutJoined", fn := fun _ => fun
  | [d1, d2, d3] => { results := [.lit (.bool false)], args := [d1, d2, d3] }
  | _ => none }
def LayoutJoinedWrongFalsely : Prop := layoutJoinedRow.holds Try.pinned (OpenSpec.ofChange layoutJoinedWrong)

/-- 'ropewalklaw.NamesSets': WHATEVER THE INPUT: true; the input reads as it did. -/
def namesSetsSpec : ChangeSpec := { name := "namesSets", fn := fun _ => fun
  | [d1, d2] => { results := [.lit (.bool true)], args := [d1, d2] }
  | _ => none }
def namesSetsRow : OpenClaim := { program := "ytpbbmddbmbmbpaa", sum := "9042d8f431e7b18f23331a6ebb35672229e38e59856efa2dc08fad21aac3d1d1", func := "ropewalk/ropewalklaw.NamesSets", spec := "namesSets", unfollowed := true, recurses := true, apart := false }
def NamesSetsSaid : Prop := namesSetsRow.holds Try.pinned (OpenSpec.ofChange namesSetsSpec)

/-- ITS FALSE NEIGHBOUR: 'it returns false'. Refute it at one input. -/
def namesSetsWrong : ChangeSpec := { name := "namesSets", fn := fun _ => fun
  | [d1, d2] => { results := [.lit (.bool false)], args := [d1, d2] }
  | _ => none }
def NamesSetsWrongFalsely : Prop := namesSetsRow.holds Try.pinned (OpenSpec.ofChange namesSetsWrong)

/- THE SECOND FORM. 'bulk': how many values and letters a reading holds, each counted each time it is reached (what is shared counts as often as it is met; a slice's spare places count too). A statement '..UptoSaid' is the law's where the arguments, and the package variables that the reading takes, are together of bulk at most 1048576: NARROWER than '..Said'. Prove '..Said' where nothing that the law and all that it calls make is longer than what came in: it says more and counts as full. Else prove '..UptoSaid'. A law counts once. -/
mutual
def uptoBulk {H : Type} : DataW H → Nat
  | .lit (.string bytes) => bytes.length + 1
  | .lit _ => 1
  | .nil => 1
  | .ptr d => uptoBulk d + 1
  | .slice elems spare => uptoBulkAll elems + uptoBulkAll spare + 1
  | .agg parts => uptoBulkAll parts + 1
  | .iface _ d => uptoBulk d + 1
  | .map entries => uptoBulkEntries entries + 1
  | .held _ => 1
def uptoBulkAll {H : Type} : List (DataW H) → Nat
  | [] => 0
  | d :: r => uptoBulk d + uptoBulkAll r
def uptoBulkEntries {H : Type} : List (Lit × DataW H) → Nat
  | [] => 0
  | x :: r => uptoBulkEntry x + uptoBulkEntries r
def uptoBulkEntry {H : Type} : Lit × DataW H → Nat
  | (.string bytes, d) => bytes.length + uptoBulk d + 1
  | (_, d) => uptoBulk d + 1
 end
def uptoSmall : (H : Type) → List (DataW H) → Bool := fun _ ds => decide (uptoBulkAll ds ≤ 1048576)
def OpenSpec.upto (s : _root_.Go.ChangeSpec) : _root_.Go.OpenSpec := { _root_.Go.OpenSpec.ofChange s with cond := some uptoSmall }

/-- 'ropewalklaw.FarmRises', WHERE WHAT IT READS IS OF BULK AT MOST 1048576: true; the input reads as it did. -/
def farmRisesUptoRow : OpenClaim := { program := "ytpbbmddbmbmbpaa", sum := "9042d8f431e7b18f23331a6ebb35672229e38e59856efa2dc08fad21aac3d1d1", func := "ropewalk/ropewalklaw.FarmRises", spec := "farmRises", unfollowed := true, recurses := true, apart := false, narrowed := true }
def FarmRisesUptoSaid : Prop := farmRisesUptoRow.holds Try.pinned (OpenSpec.upto farmRisesSpec)

/-- 'ropewalklaw.FarmNet', WHERE WHAT IT READS IS OF BULK AT MOST 1048576: true; the input reads as it did. -/
def farmNetUptoRow : OpenClaim := { program := "ytpbbmddbmbmbpaa", sum := "9042d8f431e7b18f23331a6ebb35672229e38e59856efa2dc08fad21aac3d1d1", func := "ropewalk/ropewalklaw.FarmNet", spec := "farmNet", unfollowed := true, recurses := true, apart := false, narrowed := true }
def FarmNetUptoSaid : Prop := farmNetUptoRow.holds Try.pinned (OpenSpec.upto farmNetSpec)

/-- 'ropewalklaw.FarmHonest', WHERE WHAT IT READS IS OF BULK AT MOST 1048576: true; the input reads as it did. -/
def farmHonestUptoRow : OpenClaim := { program := "ytpbbmddbmbmbpaa", sum := "9042d8f431e7b18f23331a6ebb35672229e38e59856efa2dc08fad21aac3d1d1", func := "ropewalk/ropewalklaw.FarmHonest", spec := "farmHonest", unfollowed := true, recurses := true, apart := false, narrowed := true }
def FarmHonestUptoSaid : Prop := farmHonestUptoRow.holds Try.pinned (OpenSpec.upto farmHonestSpec)

/-- 'ropewalklaw.LayoutMoved', WHERE WHAT IT READS IS OF BULK AT MOST 1048576: true; the input reads as it did. -/
def layoutMovedUptoRow : OpenClaim := { program := "ytpbbmddbmbmbpaa", sum := "9042d8f431e7b18f23331a6ebb35672229e38e59856efa2dc08fad21aac3d1d1", func := "ropewalk/ropewalklaw.LayoutMoved", spec := "layoutMoved", recurses := true, apart := false, narrowed := true }
def LayoutMovedUptoSaid : Prop := layoutMovedUptoRow.holds Try.pinned (OpenSpec.upto layoutMovedSpec)

/-- 'ropewalklaw.LayoutApart', WHERE WHAT IT READS IS OF BULK AT MOST 1048576: true; the input reads as it did. -/
def layoutApartUptoRow : OpenClaim := { program := "ytpbbmddbmbmbpaa", sum := "9042d8f431e7b18f23331a6ebb35672229e38e59856efa2dc08fad21aac3d1d1", func := "ropewalk/ropewalklaw.LayoutApart", spec := "layoutApart", recurses := true, apart := false, narrowed := true }
def LayoutApartUptoSaid : Prop := layoutApartUptoRow.holds Try.pinned (OpenSpec.upto layoutApartSpec)

/-- 'ropewalklaw.FarmLives', WHERE WHAT IT READS IS OF BULK AT MOST 1048576: true; the input reads as it did. -/
def farmLivesUptoRow : OpenClaim := { program := "ytpbbmddbmbmbpaa", sum := "9042d8f431e7b18f23331a6ebb35672229e38e59856efa2dc08fad21aac3d1d1", func := "ropewalk/ropewalklaw.FarmLives", spec := "farmLives", unfollowed := true, recurses := true, apart := false, narrowed := true }
def FarmLivesUptoSaid : Prop := farmLivesUptoRow.holds Try.pinned (OpenSpec.upto farmLivesSpec)

/-- 'ropewalklaw.ArchiveEnds', WHERE WHAT IT READS IS OF BULK AT MOST 1048576: true; the input reads as it did. -/
def archiveEndsUptoRow : OpenClaim := { program := "ytpbbmddbmbmbpaa", sum := "9042d8f431e7b18f23331a6ebb35672229e38e59856efa2dc08fad21aac3d1d1", func := "ropewalk/ropewalklaw.ArchiveEnds", spec := "archiveEnds", unfollowed := true, recurses := true, apart := false, narrowed := true }
def ArchiveEndsUptoSaid : Prop := archiveEndsUptoRow.holds Try.pinned (OpenSpec.upto archiveEndsSpec)

/-- 'ropewalklaw.ArchivePlain', WHERE WHAT IT READS IS OF BULK AT MOST 1048576: true; the input reads as it did. -/
def archivePlainUptoRow : OpenClaim := { program := "ytpbbmddbmbmbpaa", sum := "9042d8f431e7b18f23331a6ebb35672229e38e59856efa2dc08fad21aac3d1d1", func := "ropewalk/ropewalklaw.ArchivePlain", spec := "archivePlain", unfollowed := true, recurses := true, apart := false, narrowed := true }
def ArchivePlainUptoSaid : Prop := archivePlainUptoRow.holds Try.pinned (OpenSpec.upto archivePlainSpec)

/-- 'ropewalklaw.NamesJoined', WHERE WHAT IT READS IS OF BULK AT MOST 1048576: true; the input reads as it did. -/
def namesJoinedUptoRow : OpenClaim := { program := "ytpbbmddbmbmbpaa", sum := "9042d8f431e7b18f23331a6ebb35672229e38e59856efa2dc08fad21aac3d1d1", func := "ropewalk/ropewalklaw.NamesJoined", spec := "namesJoined", recurses := true, apart := false, narrowed := true }
def NamesJoinedUptoSaid : Prop := namesJoinedUptoRow.holds Try.pinned (OpenSpec.upto namesJoinedSpec)

/-- 'ropewalklaw.LayoutJoined', WHERE WHAT IT READS IS OF BULK AT MOST 1048576: true; the input reads as it did. -/
def layoutJoinedUptoRow : OpenClaim := { program := "ytpbbmddbmbmbpaa", sum := "9042d8f431e7b18f23331a6ebb35672229e38e59856efa2dc08fad21aac3d1d1", func := "ropewalk/ropewalklaw.LayoutJoined", spec := "layoutJoined", recurses := true, apart := false, narrowed := true }
def LayoutJoinedUptoSaid : Prop := layoutJoinedUptoRow.holds Try.pinned (OpenSpec.upto layoutJoinedSpec)

/-- 'ropewalklaw.NamesSets', WHERE WHAT IT READS IS OF BULK AT MOST 1048576: true; the input reads as it did. -/
def namesSetsUptoRow : OpenClaim := { program := "ytpbbmddbmbmbpaa", sum := "9042d8f431e7b18f23331a6ebb35672229e38e59856efa2dc08fad21aac3d1d1", func := "ropewalk/ropewalklaw.NamesSets", spec := "namesSets", unfollowed := true, recurses := true, apart := false, narrowed := true }
def NamesSetsUptoSaid : Prop := namesSetsUptoRow.holds Try.pinned (OpenSpec.upto namesSetsSpec)

end Rows
end Go.Proofs.Ytpbbmddbmbmbpaa
