/- ropewalklaw.PartGroups: it answers true. -/
import Derived.Test.YtkkjfjbkhafaiaaOrderW
import Derived.Test.YtkkjfjbkhafaiaaGroupsL
namespace Go.Proofs.Ytkkjfjbkhafaiaa
open Go.RowKit

/-- What stands while the groups are counted. -/
structure GS (w wr : World) (g2 g3 : Nat) (p1 p2 p3 : PtM) (Ag : Option Addr) (cg : Nat) (G : List ByteArray) (Ax : Option Addr) (cx : Nat) (X : List ByteArray) : Prop where
  k1 : Blk wr w.heap.size 25 #[.slice p1.fa p1.frs.length p1.fc, .slice p1.da p1.dfs.length p1.dc]
  k2 : Blk wr g2 25 #[.slice p2.fa p2.frs.length p2.fc, .slice p2.da p2.dfs.length p2.dc]
  k3 : Blk wr g3 25 #[.slice p3.fa p3.frs.length p3.fc, .slice p3.da p3.dfs.length p3.dc]
  a1 : p1.At wr wr.heap.size
  a2 : p2.At wr wr.heap.size
  a3 : p3.At wr wr.heap.size
  r1 : Reads wr wr.heap.size 1 Ag G.length (strsV G)
  r2 : Reads wr wr.heap.size 1 Ax X.length (strsV X)
  hB : Below w.heap.size w wr
theorem GS.step {w wr w' : World} {g2 g3 : Nat} {p1 p2 p3 : PtM} {Ag : Option Addr} {cg : Nat} {G : List ByteArray} {Ax : Option Addr} {cx : Nat} {X : List ByteArray} (h : GS w wr g2 g3 p1 p2 p3 Ag cg G Ax cx X) (hs : Below wr.heap.size wr w') : GS w w' g2 g3 p1 p2 p3 Ag cg G Ax cx X :=
  ⟨h.k1.all hs, h.k2.all hs, h.k3.all hs, h.a1.all hs, h.a2.all hs, h.a3.all hs, (h.r1.below hs).more hs.size, (h.r2.below hs).more hs.size, h.hB.trans (hs.mono h.hB.size)⟩

set_option maxRecDepth 100000 in
set_option maxHeartbeats 20000000 in
theorem partGroups_any (p1 p2 : PtM) (w : World) (a1 : p1.At w w.heap.size) (a2 : p2.At w w.heap.size) :
    Calls Try.prog 3 #[.agg #[.slice p1.fa p1.frs.length p1.fc, .slice p1.da p1.dfs.length p1.dc], .agg #[.slice p2.fa p2.frs.length p2.fc, .slice p2.da p2.dfs.length p2.dc]] w
      fun e w' => e = .returned (.bool true) ∧ Below w.heap.size w w' := by
  go_enter Try.func3, Try.ntmps3
  go_upto_region 1 with (fail)
  have k1 := (Blk.new w 25 #[.slice p1.fa p1.frs.length p1.fc, .slice p1.da p1.dfs.length p1.dc]).alloc (.cells #[.slice (p2).fa (p2).frs.length (p2).fc, .slice (p2).da (p2).dfs.length (p2).dc] 25)
  have k2 := Blk.new' (w.alloc (.cells #[.slice (p1).fa (p1).frs.length (p1).fc, .slice (p1).da (p1).dfs.length (p1).dc] 25)) 25 #[.slice p2.fa p2.frs.length p2.fc, .slice p2.da p2.dfs.length p2.dc] (g := w.heap.size + 1) (by simp)
  have hB : Below w.heap.size w ((w.alloc (.cells #[.slice (p1).fa (p1).frs.length (p1).fc, .slice (p1).da (p1).dfs.length (p1).dc] 25)).alloc (.cells #[.slice (p2).fa (p2).frs.length (p2).fc, .slice (p2).da (p2).dfs.length (p2).dc] 25)) := by (repeat' (first | exact Below.refl _ _ | assumption | refine Below.setCell ?_ (by first | omega | exact Below.size (by assumption) | (simp; done) | (simp; omega)) _ | refine Below.alloc ?_ (by first | omega | exact Below.size (by assumption) | (simp; done) | (simp; omega)) _ | refine Below.drew ?_ | refine below_drewN ?_ _))
  replace a1 := a1.all hB
  replace a2 := a2.all hB
  obtain ⟨W, hW⟩ : ∃ W', W' = (w.alloc (.cells #[.slice (p1).fa (p1).frs.length (p1).fc, .slice (p1).da (p1).dfs.length (p1).dc] 25)).alloc (.cells #[.slice (p2).fa (p2).frs.length (p2).fc, .slice (p2).da (p2).dfs.length (p2).dc] 25) := ⟨_, rfl⟩
  obtain ⟨g2, hg2⟩ : ∃ g, g = w.heap.size + 1 := ⟨_, rfl⟩
  rw [← hg2] at k2 ⊢
  rw [← hW] at k1 k2 a1 a2 hB ⊢
  clear hW hg2
  obtain ⟨xA, nA, H3⟩ : ∃ x n, Hid (joinP p1.er p2.er = (x, n)) := ⟨_, _, rfl⟩
  ((have q0 := (k1).cell 0; have q1 := (k1).cell 1; have q2 := (k2).cell 0; have q3 := (k2).cell 1); go_wp2_with fail; refine (join_any p1 p2 _ a1 a2).mono ?_; rintro e w1 ⟨p3, rfl, o3, e3, hb1⟩; rw [H3.out] at e3 ⊢; clear q0 q1 q2 q3; go_upto_region 2 with (fail); have hs := hb1.alloc hb1.size (.cells #[.slice (p3).fa (p3).frs.length (p3).fc, .slice (p3).da (p3).dfs.length (p3).dc] 25); have k3 := Blk.new w1 25 #[.slice p3.fa p3.frs.length p3.fc, .slice p3.da p3.dfs.length p3.dc]; have a3 := (o3.alloc (.cells #[.slice (p3).fa (p3).frs.length (p3).fc, .slice (p3).da (p3).dfs.length (p3).dc] 25)).at_; obtain ⟨g3, hg3⟩ : ∃ g, g = w1.heap.size := ⟨_, rfl⟩; obtain ⟨W, hW⟩ : ∃ W', W' = w1.alloc (.cells #[.slice (p3).fa (p3).frs.length (p3).fc, .slice (p3).da (p3).dfs.length (p3).dc] 25) := ⟨_, rfl⟩; rw [← hg3] at k3 ⊢; rw [← hW] at hs k3 a3 ⊢; clear hW hg3 hb1 o3; (have kN := k3; have aN := a3; clear k3 a3; ((try replace a1 := a1.all hs); (try replace a2 := a2.all hs); (try replace a3 := a3.all hs); (try replace a4 := a4.all hs); (try replace a5 := a5.all hs); (try replace a6 := a6.all hs); (try replace a7 := a7.all hs); (try replace a8 := a8.all hs); (try replace a9 := a9.all hs); (try replace k1 := k1.all hs); (try replace k2 := k2.all hs); (try replace k3 := k3.all hs); (try replace k4 := k4.all hs); (try replace k5 := k5.all hs); (try replace k6 := k6.all hs); (try replace k7 := k7.all hs); (try replace k8 := k8.all hs); (try replace k9 := k9.all hs); (try replace r1 := own_all r1 hs); (try replace r2 := own_all r2 hs); (try replace r3 := own_all r3 hs); (try replace r4 := own_all r4 hs); replace hB := hB.trans (hs.mono hB.size)); have k3 := kN; have a3 := aN; clear kN aN hs))
  (go_wp2_with fail; refine (spliced_any _).mono ?_; rintro e w1 ⟨rfl, hs⟩; ((try replace a1 := a1.all hs); (try replace a2 := a2.all hs); (try replace a3 := a3.all hs); (try replace a4 := a4.all hs); (try replace a5 := a5.all hs); (try replace a6 := a6.all hs); (try replace a7 := a7.all hs); (try replace a8 := a8.all hs); (try replace a9 := a9.all hs); (try replace k1 := k1.all hs); (try replace k2 := k2.all hs); (try replace k3 := k3.all hs); (try replace k4 := k4.all hs); (try replace k5 := k5.all hs); (try replace k6 := k6.all hs); (try replace k7 := k7.all hs); (try replace k8 := k8.all hs); (try replace k9 := k9.all hs); (try replace r1 := own_all r1 hs); (try replace r2 := own_all r2 hs); (try replace r3 := own_all r3 hs); (try replace r4 := own_all r4 hs); replace hB := hB.trans (hs.mono hB.size)); clear hs)
  obtain ⟨W, hW⟩ : ∃ W', W' = w1 := ⟨_, rfl⟩
  rw [← hW] at k1 k2 k3 a1 a2 a3 hB ⊢
  clear hW
  by_cases hA : nA = 0
  · obtain ⟨o1, o2, hf, hj⟩ := joinP_zero (a := p1.er) (b := p2.er) (by rw [H3.out]; exact hA)
    have x3 : xA = joinU p1.er p2.er := by have := H3.out.symm.trans hj; injection this
    subst hA x3
    have o3 := ok_join o1 o2 hf
    have C1 : Hid (ckPart p1.er = 0) := (ok_iff _).2 o1
    have C3 : Hid (ckPart p3.er = 0) := by show _ = _; rw [e3]; exact (ok_iff _).2 o3
    have HG : Hid (∀ s ∈ groupsOf p3.er.frs, cntG s p3.er.frs = if s ∈ groupsOf p1.er.frs then cntG s p1.er.frs else cntG s p2.er.frs) := by
      intro s hs
      rw [e3] at hs ⊢
      exact cntG_join _ _ hs
    have HP : Hid (∃ r, groupsOf p3.er.frs = groupsOf p1.er.frs ++ r) := by
      show ∃ r, _
      rw [e3]; exact groups_join _ _
    have HD : Hid (groupsOf (dropP p3.er (groupsOf p3.er.frs)).frs = []) := groups_dropped _
    have HA : Hid (dropP (dropP p3.er (groupsOf p3.er.frs)) (groupsOf p3.er.frs) = dropP p3.er (groupsOf p3.er.frs)) := by
      show _ = _
      rw [e3]; exact drop_again o3.right
    have CD : Hid (ckPart (dropP p3.er (groupsOf p3.er.frs)) = 0) := by
      show _ = _
      rw [e3]; exact (ok_iff _).2 (ok_drop o3 _)
    have n60 : (groupsOf p3.er.frs).length ≤ 60 := by
      refine Nat.le_trans (groupsOf_len _) ?_
      rw [e3]; exact o3.n1
    clear hf hj H3 o1 o2 o3 e3
    obtain ⟨G, hGe⟩ : ∃ G, groupsOf p3.er.frs = G := ⟨_, rfl⟩
    obtain ⟨X, hXe⟩ : ∃ X, groupsOf p1.er.frs = X := ⟨_, rfl⟩
    go_upto_region 4 with (fail)
    (have q0 := (k3).cell 0; have q1 := (k3).cell 1; go_wp2_with fail; refine (groupsOut_any p3 W a3).mono ?_; rintro e w1 ⟨v, rfl, hv0, hv1, hs⟩; have r1 := hv1 (C3.out); rw [C3.out]; obtain ⟨Ag, cg, rfl, hcg, hmg⟩ := own_form r1; clear hv0 hv1 q0 q1; obtain ⟨W, hW⟩ : ∃ W', W' = w1 := ⟨_, rfl⟩; rw [← hW] at hs r1 ⊢; clear hW; have rN := r1; clear r1; ((try replace a1 := a1.all hs); (try replace a2 := a2.all hs); (try replace a3 := a3.all hs); (try replace a4 := a4.all hs); (try replace a5 := a5.all hs); (try replace a6 := a6.all hs); (try replace a7 := a7.all hs); (try replace a8 := a8.all hs); (try replace a9 := a9.all hs); (try replace k1 := k1.all hs); (try replace k2 := k2.all hs); (try replace k3 := k3.all hs); (try replace k4 := k4.all hs); (try replace k5 := k5.all hs); (try replace k6 := k6.all hs); (try replace k7 := k7.all hs); (try replace k8 := k8.all hs); (try replace k9 := k9.all hs); (try replace r1 := own_all r1 hs); (try replace r2 := own_all r2 hs); (try replace r3 := own_all r3 hs); (try replace r4 := own_all r4 hs); replace hB := hB.trans (hs.mono hB.size)); have r1 := rN; clear rN hs)
    rw [hGe] at r1 HG HP HD HA CD n60 hcg ⊢
    rw [hXe] at HG HP
    have gl := n60
    (have q0 := (k1).cell 0; have q1 := (k1).cell 1; go_wp2_with fail; refine (groupsOut_any p1 W a1).mono ?_; rintro e w1 ⟨v, rfl, hv0, hv1, hs⟩; have r2 := hv1 (C1.out); rw [C1.out]; obtain ⟨Ax, cx, rfl, hcx, hmx⟩ := own_form r2; clear hv0 hv1 q0 q1; obtain ⟨W, hW⟩ : ∃ W', W' = w1 := ⟨_, rfl⟩; rw [← hW] at hs r2 ⊢; clear hW; have rN := r2; clear r2; ((try replace a1 := a1.all hs); (try replace a2 := a2.all hs); (try replace a3 := a3.all hs); (try replace a4 := a4.all hs); (try replace a5 := a5.all hs); (try replace a6 := a6.all hs); (try replace a7 := a7.all hs); (try replace a8 := a8.all hs); (try replace a9 := a9.all hs); (try replace k1 := k1.all hs); (try replace k2 := k2.all hs); (try replace k3 := k3.all hs); (try replace k4 := k4.all hs); (try replace k5 := k5.all hs); (try replace k6 := k6.all hs); (try replace k7 := k7.all hs); (try replace k8 := k8.all hs); (try replace k9 := k9.all hs); (try replace r1 := own_all r1 hs); (try replace r2 := own_all r2 hs); (try replace r3 := own_all r3 hs); (try replace r4 := own_all r4 hs); replace hB := hB.trans (hs.mono hB.size)); have r2 := rN; clear rN hs)
    rw [hXe] at r2 ⊢
    replace hGe := Lib.hid hGe
    replace hXe := Lib.hid hXe
    have q0 := k3.cell 0
    have q1 := k3.cell 1
    go_wp2_with fail
    refine (dropOut_any p3 Ag cg G W a3 (Reads.of_own r1) (by omega)).mono ?_
    rintro e w1 ⟨p4, rfl, o4, e4, hb1⟩
    rw [dropRes_ok C3.out] at e4 ⊢
    clear q0 q1
    go_upto_region 7 with (fail)
    (have hs := hb1.alloc hb1.size (.cells #[.slice (p4).fa (p4).frs.length (p4).fc, .slice (p4).da (p4).dfs.length (p4).dc] 25); have k4 := Blk.new w1 25 #[.slice p4.fa p4.frs.length p4.fc, .slice p4.da p4.dfs.length p4.dc]; have a4 := (o4.alloc (.cells #[.slice (p4).fa (p4).frs.length (p4).fc, .slice (p4).da (p4).dfs.length (p4).dc] 25)).at_; obtain ⟨g4, hg4⟩ : ∃ g, g = w1.heap.size := ⟨_, rfl⟩; obtain ⟨W, hW⟩ : ∃ W', W' = w1.alloc (.cells #[.slice (p4).fa (p4).frs.length (p4).fc, .slice (p4).da (p4).dfs.length (p4).dc] 25) := ⟨_, rfl⟩; rw [← hg4] at k4 ⊢; rw [← hW] at hs k4 a4 ⊢; clear hW hg4 hb1 o4; (have kN := k4; have aN := a4; clear k4 a4; ((try replace a1 := a1.all hs); (try replace a2 := a2.all hs); (try replace a3 := a3.all hs); (try replace a4 := a4.all hs); (try replace a5 := a5.all hs); (try replace a6 := a6.all hs); (try replace a7 := a7.all hs); (try replace a8 := a8.all hs); (try replace a9 := a9.all hs); (try replace k1 := k1.all hs); (try replace k2 := k2.all hs); (try replace k3 := k3.all hs); (try replace k4 := k4.all hs); (try replace k5 := k5.all hs); (try replace k6 := k6.all hs); (try replace k7 := k7.all hs); (try replace k8 := k8.all hs); (try replace k9 := k9.all hs); (try replace r1 := own_all r1 hs); (try replace r2 := own_all r2 hs); (try replace r3 := own_all r3 hs); (try replace r4 := own_all r4 hs); replace hB := hB.trans (hs.mono hB.size)); have k4 := kN; have a4 := aN; clear kN aN hs))
    obtain ⟨R, hR⟩ := HP.out
    have xl : X.length ≤ G.length := by rw [hR]; simp
    have xcap : X.length ≤ cg := by omega
    have t1 : decide ((G.length : Int) < (X.length : Int)) = false := decide_eq_false (by omega)
    have hrX : Reads W W.heap.size 1 Ag X.length (strsV X) := by
      have := (Reads.of_own r1).take xl
      rw [hR, strsV_append, List.take_left' (by simp [strsV])] at this
      exact this
    replace hR := Lib.hid hR
    go_wp2_with fail
    refine (equalStrs_any Ag Ax cg cx X X W hrX (Reads.of_own r2) (by omega)).mono ?_
    rintro e w1 ⟨rfl, hs⟩
    rw [show (X == X) = true from by simp]
    clear hrX
    ((try replace a1 := a1.all hs); (try replace a2 := a2.all hs); (try replace a3 := a3.all hs); (try replace a4 := a4.all hs); (try replace a5 := a5.all hs); (try replace a6 := a6.all hs); (try replace a7 := a7.all hs); (try replace a8 := a8.all hs); (try replace a9 := a9.all hs); (try replace k1 := k1.all hs); (try replace k2 := k2.all hs); (try replace k3 := k3.all hs); (try replace k4 := k4.all hs); (try replace k5 := k5.all hs); (try replace k6 := k6.all hs); (try replace k7 := k7.all hs); (try replace k8 := k8.all hs); (try replace k9 := k9.all hs); (try replace r1 := own_all r1 hs); (try replace r2 := own_all r2 hs); (try replace r3 := own_all r3 hs); (try replace r4 := own_all r4 hs); replace hB := hB.trans (hs.mono hB.size))
    clear hs
    obtain ⟨W, hW⟩ : ∃ W', W' = w1 := ⟨_, rfl⟩
    rw [← hW] at k1 k2 k3 k4 a1 a2 a3 a4 r1 r2 hB ⊢
    clear hW
    have C4 : Hid (ckPart p4.er = 0) := by show _ = _; rw [e4]; exact CD.out
    have E4 : Hid (groupsOf p4.er.frs = []) := by show _ = _; rw [e4]; exact HD.out
    have D4 : Hid (dropP p4.er G = p4.er) := by show _ = _; rw [e4]; exact HA.out
    go_upto_region 9 with (fail)
    (have q0 := (k4).cell 0; have q1 := (k4).cell 1; go_wp2_with fail; refine (groupsOut_any p4 W a4).mono ?_; rintro e w1 ⟨v, rfl, hv0, hv1, hs⟩; have r3 := hv1 (C4.out); rw [C4.out]; obtain ⟨An, cn, rfl, hcn, hmn⟩ := own_form r3; clear hv0 hv1 q0 q1; obtain ⟨W, hW⟩ : ∃ W', W' = w1 := ⟨_, rfl⟩; rw [← hW] at hs r3 ⊢; clear hW; have rN := r3; clear r3; ((try replace a1 := a1.all hs); (try replace a2 := a2.all hs); (try replace a3 := a3.all hs); (try replace a4 := a4.all hs); (try replace a5 := a5.all hs); (try replace a6 := a6.all hs); (try replace a7 := a7.all hs); (try replace a8 := a8.all hs); (try replace a9 := a9.all hs); (try replace k1 := k1.all hs); (try replace k2 := k2.all hs); (try replace k3 := k3.all hs); (try replace k4 := k4.all hs); (try replace k5 := k5.all hs); (try replace k6 := k6.all hs); (try replace k7 := k7.all hs); (try replace k8 := k8.all hs); (try replace k9 := k9.all hs); (try replace r1 := own_all r1 hs); (try replace r2 := own_all r2 hs); (try replace r3 := own_all r3 hs); (try replace r4 := own_all r4 hs); replace hB := hB.trans (hs.mono hB.size)); have r3 := rN; clear rN hs)
    rw [E4.out] at r3 ⊢
    have q0 := k4.cell 0
    have q1 := k4.cell 1
    go_wp2_with fail
    refine (dropOut_any p4 Ag cg G W a4 (Reads.of_own r1) (by omega)).mono ?_
    rintro e w1 ⟨p5, rfl, o5, e5, hb1⟩
    rw [dropRes_ok C4.out, D4.out] at e5 ⊢
    clear q0 q1
    go_upto_region 11 with (fail)
    (have hs := hb1.alloc hb1.size (.cells #[.slice (p5).fa (p5).frs.length (p5).fc, .slice (p5).da (p5).dfs.length (p5).dc] 25); have k5 := Blk.new w1 25 #[.slice p5.fa p5.frs.length p5.fc, .slice p5.da p5.dfs.length p5.dc]; have a5 := (o5.alloc (.cells #[.slice (p5).fa (p5).frs.length (p5).fc, .slice (p5).da (p5).dfs.length (p5).dc] 25)).at_; obtain ⟨g5, hg5⟩ : ∃ g, g = w1.heap.size := ⟨_, rfl⟩; obtain ⟨W, hW⟩ : ∃ W', W' = w1.alloc (.cells #[.slice (p5).fa (p5).frs.length (p5).fc, .slice (p5).da (p5).dfs.length (p5).dc] 25) := ⟨_, rfl⟩; rw [← hg5] at k5 ⊢; rw [← hW] at hs k5 a5 ⊢; clear hW hg5 hb1 o5; (have kN := k5; have aN := a5; clear k5 a5; ((try replace a1 := a1.all hs); (try replace a2 := a2.all hs); (try replace a3 := a3.all hs); (try replace a4 := a4.all hs); (try replace a5 := a5.all hs); (try replace a6 := a6.all hs); (try replace a7 := a7.all hs); (try replace a8 := a8.all hs); (try replace a9 := a9.all hs); (try replace k1 := k1.all hs); (try replace k2 := k2.all hs); (try replace k3 := k3.all hs); (try replace k4 := k4.all hs); (try replace k5 := k5.all hs); (try replace k6 := k6.all hs); (try replace k7 := k7.all hs); (try replace k8 := k8.all hs); (try replace k9 := k9.all hs); (try replace r1 := own_all r1 hs); (try replace r2 := own_all r2 hs); (try replace r3 := own_all r3 hs); (try replace r4 := own_all r4 hs); replace hB := hB.trans (hs.mono hB.size)); have k5 := kN; have a5 := aN; clear kN aN hs))
    have S1 : Hid (decide (p4.er = p5.er) = true) := decide_eq_true e5.symm
    ((have q0 := (k4).cell 0; have q1 := (k4).cell 1; have q2 := (k5).cell 0; have q3 := (k5).cell 1); go_wp2_with fail; refine (same_any p4 p5 _ a4 a5).mono ?_; rintro e w1 ⟨rfl, hs⟩; rw [S1.out]; clear q0 q1 q2 q3; ((try replace a1 := a1.all hs); (try replace a2 := a2.all hs); (try replace a3 := a3.all hs); (try replace a4 := a4.all hs); (try replace a5 := a5.all hs); (try replace a6 := a6.all hs); (try replace a7 := a7.all hs); (try replace a8 := a8.all hs); (try replace a9 := a9.all hs); (try replace k1 := k1.all hs); (try replace k2 := k2.all hs); (try replace k3 := k3.all hs); (try replace k4 := k4.all hs); (try replace k5 := k5.all hs); (try replace k6 := k6.all hs); (try replace k7 := k7.all hs); (try replace k8 := k8.all hs); (try replace k9 := k9.all hs); (try replace r1 := own_all r1 hs); (try replace r2 := own_all r2 hs); (try replace r3 := own_all r3 hs); (try replace r4 := own_all r4 hs); replace hB := hB.trans (hs.mono hB.size)); clear hs)
    obtain ⟨W, hW⟩ : ∃ W', W' = w1 := ⟨_, rfl⟩
    rw [← hW] at k1 k2 k3 a1 a2 a3 r1 r2 hB ⊢
    clear hW
    have hGS : GS w W g2 g3 p1 p2 p3 Ag cg G Ax cx X := ⟨k1, k2, k3, a1, a2, a3, Reads.of_own r1, Reads.of_own r2, hB⟩
    clear k1 k2 k3 k4 k5 a1 a2 a3 a4 a5 r1 r2 r3 hB e4 e5 C1 C3 HP HD HA CD S1 C4 E4 D4 hR
    go_wp2_with fail
    go_loopw [108] (fun i wr => ∃ k : Nat, k ≤ G.length ∧ i = .int .i64 k ∧ GS w wr g2 g3 p1 p2 p3 Ag cg G Ax cx X) (fun i _ => G.length - (intOf i).toNat)
    case atStart => exact ⟨0, Nat.zero_le _, rfl, hGS⟩
    case round =>
      clear hGS
      obtain ⟨k, hk, rfl, hGS⟩ := hrel
      by_cases hlt0 : k < G.length
      · obtain ⟨bg, offg, u, rfl, blg, hu, hcg'⟩ := hGS.r1.at_ hlt0
        obtain ⟨s, hs⟩ : ∃ s, G[k]? = some s := ⟨_, List.getElem?_eq_getElem hlt0⟩
        rw [show (strsV G)[k]? = some (strV s) by simp [strsV, hs]] at hu
        cases hu
        unfold strV at hcg'
        have HS := Lib.hid (HG.out s (List.mem_of_getElem? hs))
        clear hs
        go_upto_region 17 with (fail)
        have L3 : p3.frs.length ≤ 9223372036854775807 := hGS.a3.fm
        have q0 := hGS.k3.cell 0
        go_wp2_with fail
        clear q0
        go_loopw [16, 115] (fun n i wr => ∃ j : Nat, j ≤ p3.frs.length ∧ i = .int .i64 j ∧ n = .int .i64 (cntG s ((p3.frs.map FgM.f).take j)) ∧ GS w wr g2 g3 p1 p2 p3 (some ⟨bg, offg, none⟩) cg G Ax cx X) (fun _ i _ => p3.frs.length - (intOf i).toNat)
        case atStart => exact ⟨0, Nat.zero_le _, rfl, rfl, hGS⟩
        case round =>
          clear hGS hcg'
          obtain ⟨j, hj, rfl, rfl, hGS⟩ := hrel
          by_cases hlt : j < p3.frs.length
          · (obtain ⟨x, hx⟩ : ∃ x, (p3).frs[j]? = some x := ⟨_, List.getElem?_eq_getElem hlt⟩; obtain ⟨b, off, hda, bl, c0, c1, c2, c3, c4, c5⟩ := fg_get (hGS.a3.fr) hx; have hC : cntG s (((p3).frs.map FgM.f).take (j + 1)) = cntG s (((p3).frs.map FgM.f).take j) + (if x.f.group = s then 1 else 0) := (by rw [List.take_add_one, List.getElem?_map, hx]; exact cntG_snoc _ _ _); have hCl : cntG s (((p3).frs.map FgM.f).take j) ≤ j := Nat.le_trans (cntG_le _ _) (by rw [List.length_take]; omega); have hst : Below wr.heap.size wr (wr.alloc (.cells #[.int .i64 x.f.sect, .int .i64 x.f.align, .string x.f.group, .slice x.ba x.f.bs.length x.bc, .int .i64 x.f.size, .slice x.ra x.f.rs.length x.rc] 39)) := (by (repeat' (first | exact Below.refl _ _ | assumption | refine Below.setCell ?_ (by first | omega | exact Below.size (by assumption) | (simp; done) | (simp; omega)) _ | refine Below.alloc ?_ (by first | omega | exact Below.size (by assumption) | (simp; done) | (simp; omega)) _ | refine Below.drew ?_ | refine below_drewN ?_ _))); have hGS := hGS.step hst; rw [hda]; clear hx hst hda; obtain ⟨c, hc⟩ : ∃ c, cntG s (((p3).frs.map FgM.f).take j) = c := ⟨_, rfl⟩; rw [hc] at hC hCl ⊢; clear hc; by_cases hg : x.f.group = s; (focus (have ht := toList_eq hg; rw [if_pos hg] at hC; replace hC := Lib.hid hC; clear hg; go_wp2; go_roundw; (case rel => exact ⟨j + 1, by omega, by go_num, by rw [hC.out]; go_num, hGS⟩); (case measure => simp [intOf]; omega))); (focus (have ht := toList_ne hg; rw [if_neg hg, Nat.add_zero] at hC; replace hC := Lib.hid hC; clear hg; go_wp2; go_roundw; (case rel => exact ⟨j + 1, by omega, by go_num, congrArg (fun n : Nat => Value.int .i64 (n : Int)) hC.out.symm, hGS⟩); (case measure => simp [intOf]; omega))))
          · obtain rfl : j = p3.frs.length := by omega
            rw [show (p3.frs.map FgM.f).take p3.frs.length = p3.er.frs from List.take_of_length_le (by simp)]
            have q0 := hGS.k1.cell 0
            have q1 := hGS.k1.cell 1
            go_upto_region 24 with (fail)
            clear q0 q1
            have hst : Below wr.heap.size wr (wr.alloc (.cells #[.slice (p1).fa (p1).frs.length (p1).fc, .slice (p1).da (p1).dfs.length (p1).dc] 25)) := by (repeat' (first | exact Below.refl _ _ | assumption | refine Below.setCell ?_ (by first | omega | exact Below.size (by assumption) | (simp; done) | (simp; omega)) _ | refine Below.alloc ?_ (by first | omega | exact Below.size (by assumption) | (simp; done) | (simp; omega)) _ | refine Below.drew ?_ | refine below_drewN ?_ _))
            have hGS0 := hGS
            replace hGS := hGS.step hst
            have hbx := Blk.new wr 25 #[.slice p1.fa p1.frs.length p1.fc, .slice p1.da p1.dfs.length p1.dc]
            have gl : wr.heap.size < (wr.alloc (.cells #[.slice (p1).fa (p1).frs.length (p1).fc, .slice (p1).da (p1).dfs.length (p1).dc] 25)).heap.size := by simp
            obtain ⟨W, hW⟩ : ∃ W', W' = wr.alloc (.cells #[.slice (p1).fa (p1).frs.length (p1).fc, .slice (p1).da (p1).dfs.length (p1).dc] 25) := ⟨_, rfl⟩
            rw [← hW] at hGS hbx gl hst ⊢
            clear hW
            go_wp2_with fail
            refine (containsStr_any Ax cx X s W hGS.r2 (by omega)).mono ?_
            rintro e w' ⟨rfl, rfl⟩
            by_cases hm : s ∈ X
            · replace HS : Hid (cntG s p3.er.frs = cntG s p1.er.frs) := by have := HS.out; rwa [if_pos hm] at this
              rw [decide_eq_true hm]
              clear hm
              go_upto_region 26 with (fail)
              (have hqm : (p1).frs.length ≤ 9223372036854775807 := hGS.a1.fm; have q0 := hbx.cell 0; go_wp2_with fail; clear q0; go_loopw [17, 135] (fun n i wr => ∃ j : Nat, j ≤ (p1).frs.length ∧ i = .int .i64 j ∧ n = .int .i64 (cntG s (((p1).frs.map FgM.f).take j)) ∧ GS w wr g2 g3 p1 p2 p3 (some ⟨bg, offg, none⟩) cg G Ax cx X) (fun _ i _ => (p1).frs.length - (intOf i).toNat); (case atStart => exact ⟨0, Nat.zero_le _, rfl, rfl, hGS⟩); (case round => (clear hGS hbx; obtain ⟨j, hj, rfl, rfl, hGS⟩ := hrel; by_cases hlt : j < (p1).frs.length; (focus ((obtain ⟨x, hx⟩ : ∃ x, (p1).frs[j]? = some x := ⟨_, List.getElem?_eq_getElem hlt⟩; obtain ⟨b, off, hda, bl, c0, c1, c2, c3, c4, c5⟩ := fg_get (hGS.a1.fr) hx; have hC : cntG s (((p1).frs.map FgM.f).take (j + 1)) = cntG s (((p1).frs.map FgM.f).take j) + (if x.f.group = s then 1 else 0) := (by rw [List.take_add_one, List.getElem?_map, hx]; exact cntG_snoc _ _ _); have hCl : cntG s (((p1).frs.map FgM.f).take j) ≤ j := Nat.le_trans (cntG_le _ _) (by rw [List.length_take]; omega); have hst : Below wr.heap.size wr (wr.alloc (.cells #[.int .i64 x.f.sect, .int .i64 x.f.align, .string x.f.group, .slice x.ba x.f.bs.length x.bc, .int .i64 x.f.size, .slice x.ra x.f.rs.length x.rc] 39)) := (by (repeat' (first | exact Below.refl _ _ | assumption | refine Below.setCell ?_ (by first | omega | exact Below.size (by assumption) | (simp; done) | (simp; omega)) _ | refine Below.alloc ?_ (by first | omega | exact Below.size (by assumption) | (simp; done) | (simp; omega)) _ | refine Below.drew ?_ | refine below_drewN ?_ _))); have hGS := hGS.step hst; rw [hda]; clear hx hst hda; obtain ⟨c, hc⟩ : ∃ c, cntG s (((p1).frs.map FgM.f).take j) = c := ⟨_, rfl⟩; rw [hc] at hC hCl ⊢; clear hc; by_cases hg : x.f.group = s; (focus (have ht := toList_eq hg; rw [if_pos hg] at hC; replace hC := Lib.hid hC; clear hg; go_wp2; go_roundw; (case rel => exact ⟨j + 1, by omega, by go_num, by rw [hC.out]; go_num, hGS⟩); (case measure => simp [intOf]; omega))); (focus (have ht := toList_ne hg; rw [if_neg hg, Nat.add_zero] at hC; replace hC := Lib.hid hC; clear hg; go_wp2; go_roundw; (case rel => exact ⟨j + 1, by omega, by go_num, congrArg (fun n : Nat => Value.int .i64 (n : Int)) hC.out.symm, hGS⟩); (case measure => simp [intOf]; omega)))))); (focus (obtain rfl : j = (p1).frs.length := (by omega); rw [show ((p1).frs.map FgM.f).take (p1).frs.length = (p1).er.frs from List.take_of_length_le (by simp)]; have hEq : ((cntG s p3.er.frs : Int) != (cntG s (p1).er.frs : Int)) = false := (by rw [HS.out]; simp); replace HS := Lib.hid HS; obtain ⟨y1, hy1⟩ : ∃ y, cntG s p3.er.frs = y := ⟨_, rfl⟩; obtain ⟨y2, hy2⟩ : ∃ y, cntG s (p1).er.frs = y := ⟨_, rfl⟩; rw [hy1, hy2] at hEq; rw [hy1, hy2]; clear hy1 hy2; go_wp2; go_roundw; (case rel => exact ⟨k + 1, by omega, by go_num, hGS⟩); (case measure => simp [intOf]; omega))))))
            · replace HS : Hid (cntG s p3.er.frs = cntG s p2.er.frs) := by have := HS.out; rwa [if_neg hm] at this
              rw [decide_eq_false hm]
              clear hm
              have q0 := hGS.k2.cell 0
              have q1 := hGS.k2.cell 1
              have q2 := hbx.cell 0
              have q3 := hbx.cell 1
              have q4 := hbx.frozen 0
              have q5 := hbx.frozen 1
              go_upto_region 26 with (fail)
              have hbx2 := (hbx.set_ 0 (.slice p2.fa p2.frs.length p2.fc)).set_ 1 (.slice p2.da p2.dfs.length p2.dc)
              have hGS2 := hGS0.step ((hst.setCell (p := ⟨wr.heap.size, 0, none⟩) (Nat.le_refl _) (.slice p2.fa p2.frs.length p2.fc)).setCell (p := ⟨wr.heap.size, 1, none⟩) (Nat.le_refl _) (.slice p2.da p2.dfs.length p2.dc))
              obtain ⟨W', hW'⟩ : ∃ W', W' = (W.setCell ⟨wr.heap.size, 0, none⟩ (.slice p2.fa p2.frs.length p2.fc)).setCell ⟨wr.heap.size, 1, none⟩ (.slice p2.da p2.dfs.length p2.dc) := ⟨_, rfl⟩
              rw [← hW'] at hGS2 hbx2 ⊢
              clear q0 q1 q2 q3 q4 q5 hGS hbx hGS0 hst hW'
              have hGS := hGS2
              have hbx := hbx2
              clear hGS2 hbx2
              (have hqm : (p2).frs.length ≤ 9223372036854775807 := hGS.a2.fm; have q0 := hbx.cell 0; go_wp2_with fail; clear q0; go_loopw [17, 135] (fun n i wr => ∃ j : Nat, j ≤ (p2).frs.length ∧ i = .int .i64 j ∧ n = .int .i64 (cntG s (((p2).frs.map FgM.f).take j)) ∧ GS w wr g2 g3 p1 p2 p3 (some ⟨bg, offg, none⟩) cg G Ax cx X) (fun _ i _ => (p2).frs.length - (intOf i).toNat); (case atStart => exact ⟨0, Nat.zero_le _, rfl, rfl, hGS⟩); (case round => (clear hGS hbx; obtain ⟨j, hj, rfl, rfl, hGS⟩ := hrel; by_cases hlt : j < (p2).frs.length; (focus ((obtain ⟨x, hx⟩ : ∃ x, (p2).frs[j]? = some x := ⟨_, List.getElem?_eq_getElem hlt⟩; obtain ⟨b, off, hda, bl, c0, c1, c2, c3, c4, c5⟩ := fg_get (hGS.a2.fr) hx; have hC : cntG s (((p2).frs.map FgM.f).take (j + 1)) = cntG s (((p2).frs.map FgM.f).take j) + (if x.f.group = s then 1 else 0) := (by rw [List.take_add_one, List.getElem?_map, hx]; exact cntG_snoc _ _ _); have hCl : cntG s (((p2).frs.map FgM.f).take j) ≤ j := Nat.le_trans (cntG_le _ _) (by rw [List.length_take]; omega); have hst : Below wr.heap.size wr (wr.alloc (.cells #[.int .i64 x.f.sect, .int .i64 x.f.align, .string x.f.group, .slice x.ba x.f.bs.length x.bc, .int .i64 x.f.size, .slice x.ra x.f.rs.length x.rc] 39)) := (by (repeat' (first | exact Below.refl _ _ | assumption | refine Below.setCell ?_ (by first | omega | exact Below.size (by assumption) | (simp; done) | (simp; omega)) _ | refine Below.alloc ?_ (by first | omega | exact Below.size (by assumption) | (simp; done) | (simp; omega)) _ | refine Below.drew ?_ | refine below_drewN ?_ _))); have hGS := hGS.step hst; rw [hda]; clear hx hst hda; obtain ⟨c, hc⟩ : ∃ c, cntG s (((p2).frs.map FgM.f).take j) = c := ⟨_, rfl⟩; rw [hc] at hC hCl ⊢; clear hc; by_cases hg : x.f.group = s; (focus (have ht := toList_eq hg; rw [if_pos hg] at hC; replace hC := Lib.hid hC; clear hg; go_wp2; go_roundw; (case rel => exact ⟨j + 1, by omega, by go_num, by rw [hC.out]; go_num, hGS⟩); (case measure => simp [intOf]; omega))); (focus (have ht := toList_ne hg; rw [if_neg hg, Nat.add_zero] at hC; replace hC := Lib.hid hC; clear hg; go_wp2; go_roundw; (case rel => exact ⟨j + 1, by omega, by go_num, congrArg (fun n : Nat => Value.int .i64 (n : Int)) hC.out.symm, hGS⟩); (case measure => simp [intOf]; omega)))))); (focus (obtain rfl : j = (p2).frs.length := (by omega); rw [show ((p2).frs.map FgM.f).take (p2).frs.length = (p2).er.frs from List.take_of_length_le (by simp)]; have hEq : ((cntG s p3.er.frs : Int) != (cntG s (p2).er.frs : Int)) = false := (by rw [HS.out]; simp); replace HS := Lib.hid HS; obtain ⟨y1, hy1⟩ : ∃ y, cntG s p3.er.frs = y := ⟨_, rfl⟩; obtain ⟨y2, hy2⟩ : ∃ y, cntG s (p2).er.frs = y := ⟨_, rfl⟩; rw [hy1, hy2] at hEq; rw [hy1, hy2]; clear hy1 hy2; go_wp2; go_roundw; (case rel => exact ⟨k + 1, by omega, by go_num, hGS⟩); (case measure => simp [intOf]; omega))))))
      · go_wp2
        go_ret
        exact ⟨rfl, hGS.hB⟩
  · have t1 : (nA != 0) = true := by simpa using hA
    clear hA
    (go_wp2_with fail; refine (spliced_any _).mono ?_; rintro e w1 ⟨rfl, hs⟩; ((try replace a1 := a1.all hs); (try replace a2 := a2.all hs); (try replace a3 := a3.all hs); (try replace a4 := a4.all hs); (try replace a5 := a5.all hs); (try replace a6 := a6.all hs); (try replace a7 := a7.all hs); (try replace a8 := a8.all hs); (try replace a9 := a9.all hs); (try replace k1 := k1.all hs); (try replace k2 := k2.all hs); (try replace k3 := k3.all hs); (try replace k4 := k4.all hs); (try replace k5 := k5.all hs); (try replace k6 := k6.all hs); (try replace k7 := k7.all hs); (try replace k8 := k8.all hs); (try replace k9 := k9.all hs); (try replace r1 := own_all r1 hs); (try replace r2 := own_all r2 hs); (try replace r3 := own_all r3 hs); (try replace r4 := own_all r4 hs); replace hB := hB.trans (hs.mono hB.size)); clear hs)
    go_wp2
    go_ret
    exact ⟨rfl, hB⟩
end Go.Proofs.Ytkkjfjbkhafaiaa
