/- part.Drop, All: what they compute. -/
import Derived.Test.YtmlomnhjbmocfaaDoorJoinW
import Derived.Test.YtmlomnhjbmocfaaDoorBC
set_option linter.all false
namespace Go.Proofs.YtmlomnhjbmocfaaDoor
open Go.RowKit

def dropRes (p : Prt) (l : List ByteArray) : Prt × Int := if ckPart p ≠ 0 then (.nil, ckPart p) else (dropP p l, 0)
theorem dropRes_bad {p : Prt} {l : List ByteArray} (h : ckPart p ≠ 0) : dropRes p l = (.nil, ckPart p) := if_pos h
theorem dropRes_ok {p : Prt} {l : List ByteArray} (h : ckPart p = 0) : dropRes p l = (dropP p l, 0) := if_neg (by simp [h])
theorem outW0 (p : PtM) (w : World) : Blk ((w.alloc (.cells #[.slice p.fa p.frs.length p.fc, .slice p.da p.dfs.length p.dc] 25)).alloc (.cells #[.slice none 0 0, .slice none 0 0] 25)) w.heap.size 25 #[.slice p.fa p.frs.length p.fc, .slice p.da p.dfs.length p.dc] ∧
    Blk ((w.alloc (.cells #[.slice p.fa p.frs.length p.fc, .slice p.da p.dfs.length p.dc] 25)).alloc (.cells #[.slice none 0 0, .slice none 0 0] 25)) (w.heap.size + 1) 25 #[.slice none 0 0, .slice none 0 0] ∧
    Below w.heap.size w ((w.alloc (.cells #[.slice p.fa p.frs.length p.fc, .slice p.da p.dfs.length p.dc] 25)).alloc (.cells #[.slice none 0 0, .slice none 0 0] 25)) :=
  ⟨(Blk.new' _ _ _ rfl).alloc _, Blk.new' _ _ _ (by simp), by (repeat' (first | exact Below.refl _ _ | assumption | refine Below.setCell ?_ (by first | omega | exact Below.size (by assumption) | (simp; done) | (simp; omega)) _ | refine Below.alloc ?_ (by first | omega | exact Below.size (by assumption) | (simp; done) | (simp; omega)) _ | refine Below.drew ?_ | refine below_drewN ?_ _))⟩

/-- A row of parts in memory. -/
def ptsV (l : List PtM) : List Value := l.flatMap PtM.cells
structure PtsAt (w : World) (B : Nat) (A : Option Addr) (l : List PtM) : Prop where
  row : Reads w B 2 A l.length (ptsV l)
  each : ∀ p ∈ l, p.At w B
theorem PtsAt.keep {w w' : World} {B B' : Nat} {A : Option Addr} {l : List PtM} (h : PtsAt w B A l) (hb : Below B w w') (hB : B ≤ B') : PtsAt w' B' A l := ⟨(h.row.below hb).more hB, fun p hp => (h.each p hp).keep hb hB⟩
theorem pt_get {w : World} {B : Nat} {A : Option Addr} {l : List PtM} (h : Reads w B 2 A l.length (ptsV l)) {i : Nat} {x : PtM} (hx : l[i]? = some x) :
    ∃ b off, A = some ⟨b, off, none⟩ ∧ b < B ∧ w.cell? ⟨b, off + i * 2, none⟩ = some (.slice x.fa x.frs.length x.fc) ∧ w.cell? ⟨b, off + i * 2 + 1, none⟩ = some (.slice x.da x.dfs.length x.dc) := by
  obtain ⟨b, off, e, hb, hc⟩ := cells_get (cells := PtM.cells) (fun _ => rfl) h hx
  exact ⟨b, off, e, hb, hc 0 _ rfl, hc 1 _ rfl⟩
theorem allP_many {l : List Prt} (h : 96 < l.length) : allP l = (.nil, 2) := if_pos h
theorem allP_few {l : List Prt} (h : ¬ 96 < l.length) : allP l = allFrom .nil l := if_neg h
theorem allFrom_bad {a b : Prt} {r : List Prt} (h : (joinP a b).2 ≠ 0) : allFrom a (b :: r) = (.nil, (joinP a b).2) := by rw [allFrom, if_pos h]
theorem allFrom_ok {a b : Prt} {r : List Prt} (h : (joinP a b).2 = 0) : allFrom a (b :: r) = allFrom (joinP a b).1 r := by rw [allFrom, if_neg (by simp [h])]

end Go.Proofs.YtmlomnhjbmocfaaDoor
