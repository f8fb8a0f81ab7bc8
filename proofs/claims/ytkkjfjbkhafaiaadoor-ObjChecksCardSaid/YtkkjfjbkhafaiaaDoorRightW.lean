/- ropewalklaw.right: the closed fact of the parts: it holds. -/
import Derived.Test.YtkkjfjbkhafaiaaDoorTwoW
import Derived.Test.YtkkjfjbkhafaiaaDoorCheckW
import Derived.Test.YtkkjfjbkhafaiaaDoorSameW
import Derived.Test.YtkkjfjbkhafaiaaDoorWideW
namespace Go.Proofs.YtkkjfjbkhafaiaaDoor
open Go.RowKit

set_option maxRecDepth 100000 in
set_option maxHeartbeats 8000000 in
theorem right_any (w : World) : Calls Tryd.prog 7 #[] w fun e w' => e = .returned (.bool true) ∧ Below w.heap.size w w' := by
  have Q1 : Hid (ckPart twoA = 0) := by show _ = _; kernel_rfl
  have Q2 : Hid (ckPart twoB = 0) := by show _ = _; kernel_rfl
  have Q3 : Hid (decide (twoA = twoB) = false) := decide_eq_false (fun h => by have := congrArg (fun p : Prt => p.frs.length + (p.frs.map (fun f => f.bs.length)).length + (p.frs.map (fun f => f.align.toNat)).sum) h; revert this; decide)
  have Q4 : Hid (nameB ⟨#[109, 97, 105, 110]⟩ = true) := by show _ = _; kernel_rfl
  have Q5 : Hid (nameB ⟨#[]⟩ = false) := by show _ = _; kernel_rfl
  have Q6 : Hid (wideOf 4 = 2) := by show _ = _; kernel_rfl
  go_enter Tryd.func7, Tryd.ntmps7
  go_wp2_with fail
  refine (two_any w).mono ?_
  rintro e w1 ⟨p1, p2, rfl, oa, ob, ea, eb, hb1⟩
  go_upto_region 2 with (fail)
  have hs := (Below.refl w1.heap.size w1).alloc (Nat.le_refl _) (.cells #[.slice (p1).fa (p1).frs.length (p1).fc, .slice (p1).da (p1).dfs.length (p1).dc] 25)
  have hs := hs.alloc (by simp) (.cells #[.slice (p2).fa (p2).frs.length (p2).fc, .slice (p2).da (p2).dfs.length (p2).dc] 25)
  have k1 := (Blk.new w1 25 #[.slice p1.fa p1.frs.length p1.fc, .slice p1.da p1.dfs.length p1.dc]).alloc (.cells #[.slice (p2).fa (p2).frs.length (p2).fc, .slice (p2).da (p2).dfs.length (p2).dc] 25)
  have k2 := Blk.new' (w1.alloc (.cells #[.slice (p1).fa (p1).frs.length (p1).fc, .slice (p1).da (p1).dfs.length (p1).dc] 25)) 25 #[.slice p2.fa p2.frs.length p2.fc, .slice p2.da p2.dfs.length p2.dc] (g := w1.heap.size + 1) (by simp)
  have a1 := (oa.all hs).at_
  have a2 := (ob.all hs).at_
  have hB := hb1.trans (hs.mono hb1.size)
  obtain ⟨W, hW⟩ : ∃ W', W' = (w1.alloc (.cells #[.slice (p1).fa (p1).frs.length (p1).fc, .slice (p1).da (p1).dfs.length (p1).dc] 25)).alloc (.cells #[.slice (p2).fa (p2).frs.length (p2).fc, .slice (p2).da (p2).dfs.length (p2).dc] 25) := ⟨_, rfl⟩
  obtain ⟨g2, hg2⟩ : ∃ g, g = w1.heap.size + 1 := ⟨_, rfl⟩
  obtain ⟨g1, hg1⟩ : ∃ g, g = w1.heap.size := ⟨_, rfl⟩
  rw [← hg2] at k2 ⊢
  rw [← hg1] at k1 ⊢
  rw [← hW] at k1 k2 a1 a2 hB ⊢
  clear hW hg1 hg2 hs hb1 oa ob
  rw [← ea] at Q1 Q3
  rw [← eb] at Q2 Q3
  have y0 := k1.cell 0
  have y1 := k1.cell 1
  go_wp2_with fail
  refine (check_any p1 W a1).mono ?_
  rintro e w1 ⟨rfl, hs⟩
  rw [Q1.out]
  clear y0 y1
  ((try replace a1 := a1.all hs); (try replace a2 := a2.all hs); (try replace a3 := a3.all hs); (try replace a4 := a4.all hs); (try replace a5 := a5.all hs); (try replace a6 := a6.all hs); (try replace a7 := a7.all hs); (try replace a8 := a8.all hs); (try replace a9 := a9.all hs); (try replace k1 := k1.all hs); (try replace k2 := k2.all hs); (try replace k3 := k3.all hs); (try replace k4 := k4.all hs); (try replace k5 := k5.all hs); (try replace k6 := k6.all hs); (try replace k7 := k7.all hs); (try replace k8 := k8.all hs); (try replace k9 := k9.all hs); (try replace r1 := own_all r1 hs); (try replace r2 := own_all r2 hs); (try replace r3 := own_all r3 hs); (try replace r4 := own_all r4 hs); replace hB := hB.trans (hs.mono hB.size))
  clear hs
  have y0 := k2.cell 0
  have y1 := k2.cell 1
  go_wp2_with fail
  refine (check_any p2 _ a2).mono ?_
  rintro e w2 ⟨rfl, hs⟩
  rw [Q2.out]
  clear y0 y1
  obtain ⟨w1, hw1⟩ : ∃ x, x = w2 := ⟨_, rfl⟩
  subst hw1
  ((try replace a1 := a1.all hs); (try replace a2 := a2.all hs); (try replace a3 := a3.all hs); (try replace a4 := a4.all hs); (try replace a5 := a5.all hs); (try replace a6 := a6.all hs); (try replace a7 := a7.all hs); (try replace a8 := a8.all hs); (try replace a9 := a9.all hs); (try replace k1 := k1.all hs); (try replace k2 := k2.all hs); (try replace k3 := k3.all hs); (try replace k4 := k4.all hs); (try replace k5 := k5.all hs); (try replace k6 := k6.all hs); (try replace k7 := k7.all hs); (try replace k8 := k8.all hs); (try replace k9 := k9.all hs); (try replace r1 := own_all r1 hs); (try replace r2 := own_all r2 hs); (try replace r3 := own_all r3 hs); (try replace r4 := own_all r4 hs); replace hB := hB.trans (hs.mono hB.size))
  clear hs
  have y0 := k1.cell 0
  have y1 := k1.cell 1
  have z0 := k2.cell 0
  have z1 := k2.cell 1
  go_wp2_with fail
  refine (same_any p1 p2 _ a1 a2).mono ?_
  rintro e w3 ⟨rfl, hs⟩
  rw [Q3.out]
  clear y0 y1 z0 z1
  have hB := hB.trans (hs.mono hB.size)
  clear hs k1 k2 a1 a2
  go_wp2_with (first | (go_at_call 12; refine (name_any _ _).mono ?_; rintro e w' ⟨rfl, rfl⟩; first | rw [Q4.out] | rw [Q5.out]) | (go_at_call 14; refine (wide_any 4 _).mono ?_; rintro e w' ⟨rfl, rfl⟩; rw [Q6.out]))
  go_ret
  exact ⟨ret_val rfl, by first | exact hB | (repeat' (first | exact Below.refl _ _ | assumption | refine Below.setCell ?_ (by first | omega | exact Below.size (by assumption) | (simp; done) | (simp; omega)) _ | refine Below.alloc ?_ (by first | omega | exact Below.size (by assumption) | (simp; done) | (simp; omega)) _ | refine Below.drew ?_ | refine below_drewN ?_ _))⟩
end Go.Proofs.YtkkjfjbkhafaiaaDoor
