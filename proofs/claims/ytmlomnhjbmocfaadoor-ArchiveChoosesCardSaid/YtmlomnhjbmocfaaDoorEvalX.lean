/- What plan.Eval holds while it works: memory, step by step. No program in sight but its types' numbers. -/
import Derived.Test.YtmlomnhjbmocfaaDoorBA
import Derived.Test.YtmlomnhjbmocfaaDoorSplicedW
set_option linter.all false
namespace Go.Proofs.YtmlomnhjbmocfaaDoor
open Go.RowKit

theorem Tryd.infoParts : (Tryd.prog.info? 25).map (fun i => (i.zero, i.size, i.bytes)) = some (some (.agg #[.slice none 0 0, .slice none 0 0]), 2, 48) := by kernel_rfl
theorem ptsV_append (l m : List PtM) : ptsV (l ++ m) = ptsV l ++ ptsV m := by unfold ptsV; rw [List.flatMap_append]
theorem pt_one (q : PtM) : ∀ u ∈ q.cells, u.oneCell' = true := by
  intro u hu
  simp only [PtM.cells, List.mem_cons, List.not_mem_nil, or_false] at hu
  rcases hu with rfl | rfl <;> rfl

/-- While parts are gathered. -/
structure EV (w wr : World) (base : Nat) (z : Value) (qs : List PtM) : Prop where
  hz : wr.ownsRow base 25 2 z qs.length (ptsV qs)
  each : ∀ q ∈ qs, q.Own wr base
  hB : Below base w wr
  hb : base ≤ wr.heap.size
theorem EV.all {w wr w' : World} {base : Nat} {z : Value} {qs : List PtM} (h : EV w wr base z qs) (hs : Below wr.heap.size wr w') : EV w w' base z qs :=
  ⟨own_all h.hz hs, fun q hq => (h.each q hq).all hs, h.hB.trans (hs.mono h.hb), Nat.le_trans h.hb hs.size⟩
theorem PtM.Own.row {w w' : World} {base base' size n : Nat} {t : TypeId} {v : Value} {xs : List Value} {p : PtM} (h : p.Own w base) (hz : w.ownsRow base' t size v n xs) (hg : w.grownBy w' v.ownBlock) (h1 : 63 ≠ t) (h2 : 70 ≠ t) (h3 : 5 ≠ t) (h4 : 93 ≠ t) : p.Own w' base :=
  ⟨own_kept h.fr hg (own_row_ne h.fr hz h1), own_kept h.df hg (own_row_ne h.df hz h2), fun x hx => (h.each x hx).row hz hg h3 h4, h.apart⟩
theorem EV.push {w wr : World} {base : Nat} {z : Value} {qs : List PtM} (h : EV w wr base z qs) {q : PtM} (hq : q.Own wr base) {w5 : World} {v' : Value} (ho : w5.ownsRow base 25 2 v' (qs.length + 1) (ptsV qs ++ q.cells)) (hg : wr.grownBy w5 z.ownBlock) : EV w w5 base v' (qs ++ [q]) := by
  refine ⟨?_, fun p hp => ?_, h.hB.grown hg h.hb (fun g hg' => (h.hz.lt g hg').1), Nat.le_trans h.hb hg.size⟩
  · rw [ptsV_append, List.length_append]
    simpa [ptsV] using ho
  · rcases List.mem_append.1 hp with hp | hp
    · exact (h.each p hp).row h.hz hg (by decide) (by decide) (by decide) (by decide)
    · obtain rfl := List.mem_singleton.1 hp
      exact hq.row h.hz hg (by decide) (by decide) (by decide) (by decide)

theorem EV.box {w wr : World} {base g j : Nat} {z : Value} {qs : List PtM} (h : EV w wr base z qs) {cs : Array Value} (hb : Blk wr g 25 cs) (hg : base ≤ g) (hz : z.ownBlock ≠ some g) (u : Value) : EV w (wr.setCell ⟨g, j, none⟩ u) base z qs :=
  ⟨own_setCell h.hz hz _, fun q hq => (h.each q hq).blk hb (by decide) (by decide) (by decide) (by decide) _, h.hB.setCell (by simp only; omega) _, by have := h.hb; simpa [World.setCell] using this⟩
theorem EV.drew {w wr : World} {base : Nat} {z : Value} {qs : List PtM} (h : EV w wr base z qs) : EV w wr.drew base z qs := ⟨h.hz.drew, fun q hq => (h.each q hq).drew, h.hB.drew, h.hb⟩

def JoinedAt (w : World) (p1 p2 : PtM) (z : Value) (qs : List PtM) (bx en : Value) (wx : World) : Prop :=
  ∃ (q : PtM) (n : Int) (g : Nat), bx = .pointer (some ⟨g, 0, none⟩) ∧ en = .int .i64 n ∧ Hid (joinP p1.er p2.er = (q.er, n)) ∧ Blk wx g 25 #[.slice q.fa q.frs.length q.fc, .slice q.da q.dfs.length q.dc] ∧ q.Own wx w.heap.size ∧ EV w wx w.heap.size z qs
theorem evEndA {w W w3 : World} {z : Value} {qs : List PtM} {p1 p2 q : PtM} (hEV : EV w W w.heap.size z qs) (hb4 : Below W.heap.size W w3) (oq4 : q.Own w3 W.heap.size) (eq : q.er = (joinP p1.er p2.er).1) :
    JoinedAt w p1 p2 z qs (.pointer (some ⟨w3.heap.size, 0, none⟩)) (.int .i64 (joinP p1.er p2.er).2) (w3.alloc (.cells #[.slice (q).fa (q).frs.length (q).fc, .slice (q).da (q).dfs.length (q).dc] 25)) :=
  ⟨q, _, _, rfl, rfl, by show _ = _; rw [eq], Blk.new _ _ _, (oq4.mono hEV.hb).alloc _, (hEV.all hb4).all ((Below.refl _ _).alloc (Nat.le_refl _) _)⟩
theorem evEndB {w W w3 : World} {z : Value} {qs : List PtM} {p1 p2 q : PtM} (hEV : EV w W w.heap.size z qs) (hb4 : Below W.heap.size W w3) (oq4 : q.Own w3 W.heap.size) (eq : q.er = (joinP p1.er p2.er).1)
    (kb : Blk w3 W.heap.size 25 #[.slice none 0 0, .slice none 0 0]) (hzb : z.ownBlock ≠ some W.heap.size) :
    JoinedAt w p1 p2 z qs (.pointer (some ⟨W.heap.size, 0, none⟩)) (.int .i64 (joinP p1.er p2.er).2) ((w3.setCell ⟨W.heap.size, 0, none⟩ (.slice q.fa q.frs.length q.fc)).setCell ⟨W.heap.size, 1, none⟩ (.slice q.da q.dfs.length q.dc)) :=
  ⟨q, _, _, rfl, rfl, by show _ = _; rw [eq], (kb.set_ 0 _).set_ 1 _, ((oq4.mono hEV.hb).blk kb (by decide) (by decide) (by decide) (by decide) _).blk (kb.set_ 0 _) (by decide) (by decide) (by decide) (by decide) _,
    ((hEV.all hb4).box kb hEV.hb hzb _).box (kb.set_ 0 _) hEV.hb hzb _⟩
end Go.Proofs.YtmlomnhjbmocfaaDoor
