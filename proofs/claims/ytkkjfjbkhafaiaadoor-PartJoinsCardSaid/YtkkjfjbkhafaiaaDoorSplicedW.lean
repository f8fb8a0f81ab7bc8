/- ropewalklaw.spliced: the closed fact of the parts: it holds. -/
import Derived.Test.YtkkjfjbkhafaiaaDoorTwoW
import Derived.Test.YtkkjfjbkhafaiaaDoorAllW
namespace Go.Proofs.YtkkjfjbkhafaiaaDoor
open Go.RowKit

def twoAB : Prt := ⟨[⟨1, 1, ⟨#[]⟩, [9, 0, 0], 0, [⟨1, 2, ⟨#[102]⟩, 0, 0⟩]⟩, ⟨1, 4, ⟨#[103]⟩, [7], 0, []⟩], [⟨⟨#[109, 97, 105, 110]⟩, 1, 0, 0, 0, 0⟩, ⟨⟨#[102]⟩, 1, 1, 0, 0, 0⟩]⟩
theorem two_join : joinP twoA twoB = (twoAB, 0) := by kernel_rfl
theorem two_again : joinP twoAB twoB = (twoAB, 0) := by kernel_rfl
theorem two_ck : ckPart twoAB = 0 := by kernel_rfl
theorem two_groups : groupsOf twoAB.frs = [⟨#[103]⟩] := by kernel_rfl

set_option maxRecDepth 100000 in
set_option maxHeartbeats 8000000 in
theorem spliced_any (w : World) : Calls Tryd.prog 20 #[] w fun e w' => e = .returned (.bool true) ∧ Below w.heap.size w w' := by
  go_enter Tryd.func20, Tryd.ntmps20
  go_wp2_with fail
  refine (two_any w).mono ?_
  rintro e w1 ⟨p1, p2, rfl, oa, ob, ea, eb, hb1⟩
  go_upto_region 2 with (fail)
  have hs := (Below.refl w1.heap.size w1).alloc (Nat.le_refl _) (.cells #[.slice (p1).fa (p1).frs.length (p1).fc, .slice (p1).da (p1).dfs.length (p1).dc] 25)
  have hs := hs.alloc (by simp) (.cells #[.slice (p2).fa (p2).frs.length (p2).fc, .slice (p2).da (p2).dfs.length (p2).dc] 25)
  have k1 := (Blk.new w1 25 #[.slice p1.fa p1.frs.length p1.fc, .slice p1.da p1.dfs.length p1.dc]).alloc (.cells #[.slice (p2).fa (p2).frs.length (p2).fc, .slice (p2).da (p2).dfs.length (p2).dc] 25)
  have k2 := Blk.new' (w1.alloc (.cells #[.slice (p1).fa (p1).frs.length (p1).fc, .slice (p1).da (p1).dfs.length (p1).dc] 25)) 25 #[.slice p2.fa p2.frs.length p2.fc, .slice p2.da p2.dfs.length p2.dc] (g := w1.heap.size + 1) (by simp)
  have a1 := (oa.all hs).at_
  have a2 := (ob.all hs).at_
  have hB := hb1.trans (hs.mono hb1.size)
  obtain ⟨W, hW⟩ : ∃ W', W' = (w1.alloc (.cells #[.slice (p1).fa (p1).frs.length (p1).fc, .slice (p1).da (p1).dfs.length (p1).dc] 25)).alloc (.cells #[.slice (p2).fa (p2).frs.length (p2).fc, .slice (p2).da (p2).dfs.length (p2).dc] 25) := ⟨_, rfl⟩
  obtain ⟨g2, hg2⟩ : ∃ g, g = w1.heap.size + 1 := ⟨_, rfl⟩
  obtain ⟨g1, hg1⟩ : ∃ g, g = w1.heap.size := ⟨_, rfl⟩
  rw [← hg2] at k2 ⊢
  rw [← hg1] at k1 ⊢
  rw [← hW] at k1 k2 a1 a2 hB ⊢
  clear hW hg1 hg2 hs hb1 oa ob
  have H1 : Hid (joinP p1.er p2.er = (twoAB, 0)) := by show _ = _; rw [ea, eb]; exact two_join
  ((have q0 := (k1).cell 0; have q1 := (k1).cell 1; have q2 := (k2).cell 0; have q3 := (k2).cell 1); go_wp2_with fail; refine (join_any p1 p2 _ a1 a2).mono ?_; rintro e w1 ⟨p3, rfl, o3, e3, hb1⟩; rw [H1.out] at e3 ⊢; clear q0 q1 q2 q3; go_upto_region 3 with (fail); have hs := hb1.alloc hb1.size (.cells #[.slice (p3).fa (p3).frs.length (p3).fc, .slice (p3).da (p3).dfs.length (p3).dc] 25); have k3 := Blk.new w1 25 #[.slice p3.fa p3.frs.length p3.fc, .slice p3.da p3.dfs.length p3.dc]; have a3 := (o3.alloc (.cells #[.slice (p3).fa (p3).frs.length (p3).fc, .slice (p3).da (p3).dfs.length (p3).dc] 25)).at_; obtain ⟨g3, hg3⟩ : ∃ g, g = w1.heap.size := ⟨_, rfl⟩; obtain ⟨W, hW⟩ : ∃ W', W' = w1.alloc (.cells #[.slice (p3).fa (p3).frs.length (p3).fc, .slice (p3).da (p3).dfs.length (p3).dc] 25) := ⟨_, rfl⟩; rw [← hg3] at k3 ⊢; rw [← hW] at hs k3 a3 ⊢; clear hW hg3 hb1 o3; (have kN := k3; have aN := a3; clear k3 a3; ((try replace a1 := a1.all hs); (try replace a2 := a2.all hs); (try replace a3 := a3.all hs); (try replace a4 := a4.all hs); (try replace a5 := a5.all hs); (try replace a6 := a6.all hs); (try replace a7 := a7.all hs); (try replace a8 := a8.all hs); (try replace a9 := a9.all hs); (try replace k1 := k1.all hs); (try replace k2 := k2.all hs); (try replace k3 := k3.all hs); (try replace k4 := k4.all hs); (try replace k5 := k5.all hs); (try replace k6 := k6.all hs); (try replace k7 := k7.all hs); (try replace k8 := k8.all hs); (try replace k9 := k9.all hs); (try replace r1 := own_all r1 hs); (try replace r2 := own_all r2 hs); (try replace r3 := own_all r3 hs); (try replace r4 := own_all r4 hs); replace hB := hB.trans (hs.mono hB.size)); have k3 := kN; have a3 := aN; clear kN aN hs))
  have H2 : Hid (joinP p3.er p2.er = (twoAB, 0)) := by show _ = _; rw [e3, eb]; exact two_again
  ((have q0 := (k3).cell 0; have q1 := (k3).cell 1; have q2 := (k2).cell 0; have q3 := (k2).cell 1); go_wp2_with fail; refine (join_any p3 p2 _ a3 a2).mono ?_; rintro e w1 ⟨p4, rfl, o4, e4, hb1⟩; rw [H2.out] at e4 ⊢; clear q0 q1 q2 q3; go_upto_region 4 with (fail); have hs := hb1.alloc hb1.size (.cells #[.slice (p4).fa (p4).frs.length (p4).fc, .slice (p4).da (p4).dfs.length (p4).dc] 25); have k4 := Blk.new w1 25 #[.slice p4.fa p4.frs.length p4.fc, .slice p4.da p4.dfs.length p4.dc]; have a4 := (o4.alloc (.cells #[.slice (p4).fa (p4).frs.length (p4).fc, .slice (p4).da (p4).dfs.length (p4).dc] 25)).at_; obtain ⟨g4, hg4⟩ : ∃ g, g = w1.heap.size := ⟨_, rfl⟩; obtain ⟨W, hW⟩ : ∃ W', W' = w1.alloc (.cells #[.slice (p4).fa (p4).frs.length (p4).fc, .slice (p4).da (p4).dfs.length (p4).dc] 25) := ⟨_, rfl⟩; rw [← hg4] at k4 ⊢; rw [← hW] at hs k4 a4 ⊢; clear hW hg4 hb1 o4; (have kN := k4; have aN := a4; clear k4 a4; ((try replace a1 := a1.all hs); (try replace a2 := a2.all hs); (try replace a3 := a3.all hs); (try replace a4 := a4.all hs); (try replace a5 := a5.all hs); (try replace a6 := a6.all hs); (try replace a7 := a7.all hs); (try replace a8 := a8.all hs); (try replace a9 := a9.all hs); (try replace k1 := k1.all hs); (try replace k2 := k2.all hs); (try replace k3 := k3.all hs); (try replace k4 := k4.all hs); (try replace k5 := k5.all hs); (try replace k6 := k6.all hs); (try replace k7 := k7.all hs); (try replace k8 := k8.all hs); (try replace k9 := k9.all hs); (try replace r1 := own_all r1 hs); (try replace r2 := own_all r2 hs); (try replace r3 := own_all r3 hs); (try replace r4 := own_all r4 hs); replace hB := hB.trans (hs.mono hB.size)); have k4 := kN; have a4 := aN; clear kN aN hs))
  have q0 := k4.cell 0
  have q1 := k4.cell 1
  go_wp2_with fail
  refine (groupsOut_any p4 W a4).mono ?_
  rintro e w1 ⟨v, rfl, hv0, hv1, hs⟩
  have c4 : ckPart p4.er = 0 := by rw [e4]; exact two_ck
  have r1 := hv1 c4
  have G4 : groupsOf p4.er.frs = [⟨#[103]⟩] := by rw [e4]; exact two_groups
  rw [G4] at r1
  rw [c4]
  obtain ⟨Ag, cg, rfl, hg1, hg2⟩ := own_form r1
  clear hv0 hv1 q0 q1 c4 G4
  have rN := Reads.of_own r1
  clear r1
  ((try replace a1 := a1.all hs); (try replace a2 := a2.all hs); (try replace a3 := a3.all hs); (try replace a4 := a4.all hs); (try replace a5 := a5.all hs); (try replace a6 := a6.all hs); (try replace a7 := a7.all hs); (try replace a8 := a8.all hs); (try replace a9 := a9.all hs); (try replace k1 := k1.all hs); (try replace k2 := k2.all hs); (try replace k3 := k3.all hs); (try replace k4 := k4.all hs); (try replace k5 := k5.all hs); (try replace k6 := k6.all hs); (try replace k7 := k7.all hs); (try replace k8 := k8.all hs); (try replace k9 := k9.all hs); (try replace r1 := own_all r1 hs); (try replace r2 := own_all r2 hs); (try replace r3 := own_all r3 hs); (try replace r4 := own_all r4 hs); replace hB := hB.trans (hs.mono hB.size))
  clear hs
  obtain ⟨qf, qd, qa, qc, qda, qdc⟩ := p4
  dsimp only at *
  have f3 : p3.frs.map FgM.f = twoAB.frs := congrArg Prt.frs e3
  have f4 : qf.map FgM.f = twoAB.frs := congrArg Prt.frs e4
  have d4 : qd = twoAB.dfs := congrArg Prt.dfs e4
  have l3 : p3.frs.length = 2 := by have := congrArg List.length f3; rw [List.length_map] at this; exact this
  have l4 : qf.length = 2 := by have := congrArg List.length f4; rw [List.length_map] at this; exact this
  have m4 : qd.length = 2 := by rw [d4]; rfl
  have i4 : qd[1]? = some ⟨⟨#[102]⟩, 1, 1, 0, 0, 0⟩ := by rw [d4]; rfl
  obtain ⟨b, off, rfl, bl, x0, x1, x2, x3, x4, x5⟩ := df_get a4.df i4
  dsimp only at *
  have t3 : ((p3.frs.length : Int) == 2) = true := by rw [l3]; rfl
  have t4 : ((qf.length : Int) == 2) = true := by rw [l4]; rfl
  have u4 : ((qd.length : Int) == 2) = true := by rw [m4]; rfl
  have v4 : 1 < qd.length := by omega
  clear e3 e4 ea eb H1 H2 f3 f4 d4 l3 l4 m4 i4 a1 a2 a3 a4
  have y0 := k3.cell 0
  have z0 := k4.cell 0
  have z1 := k4.cell 1
  go_wp2_with (go_at_call 21
               refine (equalStrs_any Ag (some ⟨w1.heap.size, 0, none⟩) cg 1 [⟨#[103]⟩] [⟨#[103]⟩] (w1.alloc (.cells #[.string ⟨#[103]⟩] 9)) ?hr1 ?hr2 (by simp)).mono ?_
               case hr1 => exact (rN.alloc (Nat.le_refl _) _).more (by simp)
               case hr2 => exact (Blk.new w1 9 #[.string ⟨#[103]⟩]).reads rfl
               rintro e w2 ⟨rfl, hb2⟩)
  go_ret
  have hb3 : Below w1.heap.size w1 (w1.alloc (.cells #[.string ⟨#[103]⟩] 9)) := by (repeat' (first | exact Below.refl _ _ | assumption | refine Below.setCell ?_ (by first | omega | exact Below.size (by assumption) | (simp; done) | (simp; omega)) _ | refine Below.alloc ?_ (by first | omega | exact Below.size (by assumption) | (simp; done) | (simp; omega)) _ | refine Below.drew ?_ | refine below_drewN ?_ _))
  exact ⟨rfl, hB.trans ((hb3.trans (hb2.mono hb3.size)).mono hB.size)⟩
end Go.Proofs.YtkkjfjbkhafaiaaDoor
