/-
  No cell of these rows narrows 'for every input' (looked for: loops, veiled, ifaces, maps, wideKeys, modest, calm, conditions, laid).
  DERIVED. THE GIVEN ROWS OF THIS SEAT. 4 by the template 'for every input the law returns true; each argument reads behind the call as it read before'; 0 by the template 'total and deterministic' (their statements: YtkfmkemjoddinaaTotals.lean).
  GIVEN WITH THE SEED: the statements are not yours to turn. If you find one false, say at which input.
  Laid BY PROGRAM, IN A SANDBOX (cutbox-rows.mjs): the forced cells as the released guide's own fill.sh prints them over the translation 470ae9423a5e0062… (all of the seat's roots in one cut). By AI agents, Wed Nov 11 2026. No macro, syntax, notation, axiom, sorry.
-/
import Derived.Test.YtkfmkemjoddinaaChecked
import GoSem.Claim
import GoSem.ClaimJoined
import GoSem.ClaimMapViews
import Derived.JoinedTies
import Derived.KernelRfl
namespace Go.Proofs.Ytkfmkemjoddinaa
/- THE CELL 'sum', in the pinned program and in every row, IS THE sha256 OF THE DUMP (.gsa) THAT YtkfmkemjoddinaaProg.lean LOADS. Nothing in Lean hashes anything: it is a label: what it is worth is what the hold of that sum in a sandbox is worth. -/
noncomputable def Try.pinned : Pinned := { name := "ytkfmkemjoddinaa", sum := "470ae9423a5e00626989507af0a6bdce1ed837371e6820aae522ff7d81f9a065", checked := Try.checked }
namespace Rows
def none {H : Type} : Left H := { results := [], args := [] }

/-- 'ropewalklaw.FarmRises': WHATEVER THE INPUT: true; the input reads as it did. -/
def farmRisesSpec : ChangeSpec := { name := "farmRises", fn := fun _ => fun
  | [d1, d2] => { results := [.lit (.bool true)], args := [d1, d2] }
  | _ => none }
def farmRisesRow : OpenClaim := { program := "ytkfmkemjoddinaa", sum := "470ae9423a5e00626989507af0a6bdce1ed837371e6820aae522ff7d81f9a065", func := "ropewalk/ropewalklaw.FarmRises", spec := "farmRises", unfollowed := true, recurses := true, apart := false }
def FarmRisesSaid : Prop := farmRisesRow.holds Try.pinned (OpenSpec.ofChange farmRisesSpec)

/-- ITS FALSE NEIGHBOUR: 'it returns false'. Refute it at one input. -/
def farmRisesWrong : ChangeSpec := { name := "farmRises", fn := fun _ => fun
  | [d1, d2] => { results := [.lit (.bool false)], args := [d1, d2] }
  | _ => none }
def FarmRisesWrongFalsely : Prop := farmRisesRow.holds Try.pinned (OpenSpec.ofChange farmRisesWrong)

/-- 'ropewalklaw.FarmNet': WHATEVER THE INPUT: true; the input reads as it did. -/
def farmNetSpec : ChangeSpec := { name := "farmNet", fn := fun _ => fun
  | [d1, d2] => { results := [.lit (.bool true)], args := [d1, d2] }
  | _ => none }
def farmNetRow : OpenClaim := { program := "ytkfmkemjoddinaa", sum := "470ae9423a5e00626989507af0a6bdce1ed837371e6820aae522ff7d81f9a065", func := "ropewalk/ropewalklaw.FarmNet", spec := "farmNet", unfollowed := true, recurses := true, apart := false }
def FarmNetSaid : Prop := farmNetRow.holds Try.pinned (OpenSpec.ofChange farmNetSpec)

/-- ITS FALSE NEIGHBOUR: 'it returns false'. Refute it at one input. -/
def farmNetWrong : ChangeSpec := { name := "farmNet", fn := fun _ => fun
  | [d1, d2] => { results := [.lit (.bool false)], args := [d1, d2] }
  | _ => none }
def FarmNetWrongFalsely : Prop := farmNetRow.holds Try.pinned (OpenSpec.ofChange farmNetWrong)

/-- 'ropewalklaw.FarmHonest': WHATEVER THE INPUT: true; the input reads as it did. -/
def farmHonestSpec : ChangeSpec := { name := "farmHonest", fn := fun _ => fun
  | [d1, d2, d3, d4] => { results := [.lit (.bool true)], args := [d1, d2, d3, d4] }
  | _ => none }
def farmHonestRow : OpenClaim := { program := "ytkfmkemjoddinaa", sum := "470ae9423a5e00626989507af0a6bdce1ed837371e6820aae522ff7d81f9a065", func := "ropewalk/ropewalklaw.FarmHonest", spec := "farmHonest", unfollowed := true, recurses := true, apart := false }
def FarmHonestSaid : Prop := farmHonestRow.holds Try.pinned (OpenSpec.ofChange farmHonestSpec)

/-- ITS FALSE NEIGHBOUR: 'it returns false'. Refute it at one input. -/
def farmHonestWrong : ChangeSpec := { name := "farmHonest", fn := fun _ => fun
  | [d1, d2, d3, d4] => { results := [.lit (.bool false)], args := [d1, d2, d3, d4] }
  | _ => none }
def FarmHonestWrongFalsely : Prop := farmHonestRow.holds Try.pinned (OpenSpec.ofChange farmHonestWrong)

/-- 'ropewalklaw.FarmLives': WHATEVER THE INPUT: true; the input reads as it did. -/
def farmLivesSpec : ChangeSpec := { name := "farmLives", fn := fun _ => fun
  | [d1, d2, d3, d4] => { results := [.lit (.bool true)], args := [d1, d2, d3, d4] }
  | _ => none }
def farmLivesRow : OpenClaim := { program := "ytkfmkemjoddinaa", sum := "470ae9423a5e00626989507af0a6bdce1ed837371e6820aae522ff7d81f9a065", func := "ropewalk/ropewalklaw.FarmLives", spec := "farmLives", unfollowed := true, recurses := true, apart := false }
def FarmLivesSaid : Prop := farmLivesRow.holds Try.pinned (OpenSpec.ofChange farmLivesSpec)

/-- ITS FALSE NEIGHBOUR: 'it returns false'. Refute it at one input. -/
def farmLivesWrong : ChangeSpec := { name := "farmLives", fn := fun _ => fun
  | [d1, d2, d3, d4] => { results := [.lit (.bool false)], args := [d1, d2, d3, d4] }
  | _ => none }
def FarmLivesWrongFalsely : Prop := farmLivesRow.holds Try.pinned (OpenSpec.ofChange farmLivesWrong)

/- THE SECOND FORM. 'bulk': how many values and letters a reading holds, each counted each time it is reached (what is shared counts as often as it is met; a slice's spare places count too). A statement '..UptoSaid' is the law's where the arguments, and the package variables that the reading takes, are together of bulk at most 1048576: NARROWER than '..Said'. Prove '..Said' where nothing that the law and all that it calls make is longer than what came in: it says more and counts as full. Else prove '..UptoSaid'. A law counts once. -/
mutual
def uptoBulk {H : Type} : DataW H → Nat
  | .lit (.string bytes) => bytes.length + 1
  | .lit _ => 1
  | .nil => 1
  | .ptr d => uptoBulk d + 1
  | .slice elems spare => uptoBulkAll elems + uptoBulkAll spare + 1
  | .agg parts => uptoBulkAll parts + 1
  | .iface _ d => uptoBulk d + 1
  | .map entries => uptoBulkEntries entries + 1
  | .held _ => 1
def uptoBulkAll {H : Type} : List (DataW H) → Nat
  | [] => 0
  | d :: r => uptoBulk d + uptoBulkAll r
def uptoBulkEntries {H : Type} : List (Lit × DataW H) → Nat
  | [] => 0
  | x :: r => uptoBulkEntry x + uptoBulkEntries r
def uptoBulkEntry {H : Type} : Lit × DataW H → Nat
  | (.string bytes, d) => bytes.length + uptoBulk d + 1
  | (_, d) => uptoBulk d + 1
 end
def uptoSmall : (H : Type) → List (DataW H) → Bool := fun _ ds => decide (uptoBulkAll ds ≤ 1048576)
def OpenSpec.upto (s : _root_.Go.ChangeSpec) : _root_.Go.OpenSpec := { _root_.Go.OpenSpec.ofChange s with cond := some uptoSmall }

/-- 'ropewalklaw.FarmRises', WHERE WHAT IT READS IS OF BULK AT MOST 1048576: true; the input reads as it did. -/
def farmRisesUptoRow : OpenClaim := { program := "ytkfmkemjoddinaa", sum := "470ae9423a5e00626989507af0a6bdce1ed837371e6820aae522ff7d81f9a065", func := "ropewalk/ropewalklaw.FarmRises", spec := "farmRises", unfollowed := true, recurses := true, apart := false, narrowed := true }
def FarmRisesUptoSaid : Prop := farmRisesUptoRow.holds Try.pinned (OpenSpec.upto farmRisesSpec)

/-- 'ropewalklaw.FarmNet', WHERE WHAT IT READS IS OF BULK AT MOST 1048576: true; the input reads as it did. -/
def farmNetUptoRow : OpenClaim := { program := "ytkfmkemjoddinaa", sum := "470ae9423a5e00626989507af0a6bdce1ed837371e6820aae522ff7d81f9a065", func := "ropewalk/ropewalklaw.FarmNet", spec := "farmNet", unfollowed := true, recurses := true, apart := false, narrowed := true }
def FarmNetUptoSaid : Prop := farmNetUptoRow.holds Try.pinned (OpenSpec.upto farmNetSpec)

/-- 'ropewalklaw.FarmHonest', WHERE WHAT IT READS IS OF BULK AT MOST 1048576: true; the input reads as it did. -/
def farmHonestUptoRow : OpenClaim := { program := "ytkfmkemjoddinaa", sum := "470ae9423a5e00626989507af0a6bdce1ed837371e6820aae522ff7d81f9a065", func := "ropewalk/ropewalklaw.FarmHonest", spec := "farmHonest", unfollowed := true, recurses := true, apart := false, narrowed := true }
def FarmHonestUptoSaid : Prop := farmHonestUptoRow.holds Try.pinned (OpenSpec.upto farmHonestSpec)

/-- 'ropewalklaw.FarmLives', WHERE WHAT IT READS IS OF BULK AT MOST 1048576: true; the input reads as it did. -/
def farmLivesUptoRow : OpenClaim := { program := "ytkfmkemjoddinaa", sum := "470ae9423a5e00626989507af0a6bdce1ed837371e6820aae522ff7d81f9a065", func := "ropewalk/ropewalklaw.FarmLives", spec := "farmLives", unfollowed := true, recurses := true, apart := false, narrowed := true }
def FarmLivesUptoSaid : Prop := farmLivesUptoRow.holds Try.pinned (OpenSpec.upto farmLivesSpec)

end Rows
end Go.Proofs.Ytkfmkemjoddinaa
