/- What part.Groups, Drop, Join, All compute. No program in sight. -/
import Derived.Test.YtbonpilpmjghbaaPartD
set_option linter.all false
namespace Go.Proofs.Ytbonpilpmjghbaa

/-- The groups of fragments, in the order in which they come. -/
def groupsFrom (l : List ByteArray) : List Frg → List ByteArray
  | [] => l
  | f :: r => groupsFrom (if f.group.size = 0 ∨ f.group ∈ l then l else l ++ [f.group]) r
def groupsOf (frs : List Frg) : List ByteArray := groupsFrom [] frs

def Frg.gone (l : List ByteArray) (f : Frg) : Bool := decide (f.group.size ≠ 0 ∧ f.group ∈ l)
/-- Where each fragment goes; -1: nowhere. -/
def toFrom (l : List ByteArray) : Nat → List Frg → List Int
  | _, [] => []
  | n, f :: r => if f.gone l then -1 :: toFrom l n r else (n : Int) :: toFrom l (n + 1) r
def toOf (l : List ByteArray) (frs : List Frg) : List Int := toFrom l 0 frs
def Rel.re (to : List Int) (r : Rel) : Rel := if r.name.size = 0 ∧ 0 ≤ r.frag then { r with frag := to.getD r.frag.toNat 0 } else r
def Rel.shift (n : Nat) (r : Rel) : Rel := if r.name.size = 0 ∧ 0 ≤ r.frag then { r with frag := r.frag + n } else r
def Df.re (to : List Int) (d : Df) : Df := if d.kind ≠ 3 then { d with frag := to.getD d.frag.toNat 0 } else d
def Df.shift (n : Nat) (d : Df) : Df := if d.kind ≠ 3 then { d with frag := d.frag + n } else d
def Frg.mapR (g : Rel → Rel) (f : Frg) : Frg := { f with rs := f.rs.map g }
def dropP (p : Prt) (l : List ByteArray) : Prt :=
  ⟨(p.frs.filter fun f => !f.gone l).map (Frg.mapR (Rel.re (toOf l p.frs))), (p.dfs.map (Df.re (toOf l p.frs))).filter fun d => decide (0 ≤ d.frag)⟩
/-- Two parts joined, however great. -/
def joinU (a b : Prt) : Prt :=
  ⟨a.frs ++ (dropP b (groupsOf a.frs)).frs.map (Frg.mapR (Rel.shift a.frs.length)), a.dfs ++ (dropP b (groupsOf a.frs)).dfs.map (Df.shift a.frs.length)⟩
def Prt.nil : Prt := ⟨[], []⟩
def Prt.fits (p : Prt) : Prop := p.frs.length ≤ 60 ∧ p.dfs.length ≤ 60
instance (p : Prt) : Decidable p.fits := by unfold Prt.fits; exact inferInstance
def joinP (a b : Prt) : Prt × Int :=
  if ckPart a ≠ 0 then (.nil, ckPart a) else if ckPart b ≠ 0 then (.nil, ckPart b)
  else if (joinU a b).fits then (joinU a b, 0) else (.nil, 10)
def allFrom (a : Prt) : List Prt → Prt × Int
  | [] => (a, 0)
  | b :: r => if (joinP a b).2 ≠ 0 then (.nil, (joinP a b).2) else allFrom (joinP a b).1 r
def allP (l : List Prt) : Prt × Int := if 96 < l.length then (.nil, 2) else allFrom .nil l
end Go.Proofs.Ytbonpilpmjghbaa
