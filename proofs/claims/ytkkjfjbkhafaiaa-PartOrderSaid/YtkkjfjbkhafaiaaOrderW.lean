/- ropewalklaw.PartOrder: it answers true. -/
import Derived.Test.YtkkjfjbkhafaiaaSplicedW
import Derived.Test.YtkkjfjbkhafaiaaSameW
namespace Go.Proofs.Ytkkjfjbkhafaiaa
open Go.RowKit

theorem order_ok {a b c : Prt} (hx : (joinP a b).2 = 0) (hy : (joinP b c).2 = 0) : joinP a b = (joinU a b, 0) ∧ joinP b c = (joinU b c, 0) ∧
    ((joinP (joinU a b) c = (joinU (joinU a b) c, 0) ∧ joinP a (joinU b c) = (joinU (joinU a b) c, 0) ∧ allP [a, b, c] = (joinU (joinU a b) c, 0) ∧ ckPart (joinU (joinU a b) c) = 0) ∨
      (joinP (joinU a b) c = (.nil, 10) ∧ joinP a (joinU b c) = (.nil, 10) ∧ allP [a, b, c] = (.nil, 10))) := by
  obtain ⟨oa, ob, fx, ex⟩ := joinP_zero hx
  obtain ⟨_, oc, fy, ey⟩ := joinP_zero hy
  have ox := ok_join oa ob fx
  have oy := ok_join ob oc fy
  have hAs := join_assoc (a := a) ob.right oc.right
  have hall : allP [a, b, c] = (if (joinP (joinU a b) c).2 ≠ 0 then (.nil, (joinP (joinU a b) c).2) else ((joinP (joinU a b) c).1, 0)) := by
    rw [allP_few (by simp), allFrom_ok (by rw [nil_joinP oa]), nil_joinP oa, allFrom_ok (by rw [ex]), ex]
    rfl
  refine ⟨ex, ey, ?_⟩
  by_cases hf : (joinU (joinU a b) c).fits
  · have e1 := joinP_ok ox oc hf
    refine .inl ⟨e1, ?_, ?_, (ok_iff _).2 (ok_join ox oc hf)⟩
    · rw [hAs] at hf ⊢
      exact joinP_ok oa oy hf
    · rw [hall, e1]; rfl
  · have e1 := joinP_full ox oc hf
    refine .inr ⟨e1, ?_, ?_⟩
    · rw [hAs] at hf
      exact joinP_full oa oy hf
    · rw [hall, e1]; rfl
theorem nil_any (p : Prt) : ∃ x0 n, joinP .nil p = (x0, n) ∧ (n = 0 → x0 = p ∧ p.Ok) :=
  ⟨(joinP .nil p).1, (joinP .nil p).2, rfl, fun h => by
    obtain ⟨_, ok, _, _⟩ := joinP_zero h
    exact ⟨by rw [nil_joinP ok], ok⟩⟩
theorem nil_er : PtM.er ⟨[], [], none, 0, none, 0⟩ = .nil := rfl

set_option maxRecDepth 100000 in
set_option maxHeartbeats 20000000 in
theorem partOrder_any (p1 p2 p3 : PtM) (w : World) (a1 : p1.At w w.heap.size) (a2 : p2.At w w.heap.size) (a3 : p3.At w w.heap.size) :
    Calls Try.prog 4 #[.agg #[.slice p1.fa p1.frs.length p1.fc, .slice p1.da p1.dfs.length p1.dc], .agg #[.slice p2.fa p2.frs.length p2.fc, .slice p2.da p2.dfs.length p2.dc], .agg #[.slice p3.fa p3.frs.length p3.fc, .slice p3.da p3.dfs.length p3.dc]] w
      fun e w' => e = .returned (.bool true) ∧ Below w.heap.size w w' := by
  go_enter Try.func4, Try.ntmps4
  go_upto_region 1 with (fail)
  have k1 := ((Blk.new w 25 #[.slice p1.fa p1.frs.length p1.fc, .slice p1.da p1.dfs.length p1.dc]).alloc (.cells #[.slice (p2).fa (p2).frs.length (p2).fc, .slice (p2).da (p2).dfs.length (p2).dc] 25)).alloc (.cells #[.slice (p3).fa (p3).frs.length (p3).fc, .slice (p3).da (p3).dfs.length (p3).dc] 25)
  have k2 := (Blk.new' (w.alloc (.cells #[.slice (p1).fa (p1).frs.length (p1).fc, .slice (p1).da (p1).dfs.length (p1).dc] 25)) 25 #[.slice p2.fa p2.frs.length p2.fc, .slice p2.da p2.dfs.length p2.dc] (g := w.heap.size + 1) (by simp)).alloc (.cells #[.slice (p3).fa (p3).frs.length (p3).fc, .slice (p3).da (p3).dfs.length (p3).dc] 25)
  have k3 := Blk.new' ((w.alloc (.cells #[.slice (p1).fa (p1).frs.length (p1).fc, .slice (p1).da (p1).dfs.length (p1).dc] 25)).alloc (.cells #[.slice (p2).fa (p2).frs.length (p2).fc, .slice (p2).da (p2).dfs.length (p2).dc] 25)) 25 #[.slice p3.fa p3.frs.length p3.fc, .slice p3.da p3.dfs.length p3.dc] (g := w.heap.size + 1 + 1) (by simp)
  have hB : Below w.heap.size w (((w.alloc (.cells #[.slice (p1).fa (p1).frs.length (p1).fc, .slice (p1).da (p1).dfs.length (p1).dc] 25)).alloc (.cells #[.slice (p2).fa (p2).frs.length (p2).fc, .slice (p2).da (p2).dfs.length (p2).dc] 25)).alloc (.cells #[.slice (p3).fa (p3).frs.length (p3).fc, .slice (p3).da (p3).dfs.length (p3).dc] 25)) := by (repeat' (first | exact Below.refl _ _ | assumption | refine Below.setCell ?_ (by first | omega | exact Below.size (by assumption) | (simp; done) | (simp; omega)) _ | refine Below.alloc ?_ (by first | omega | exact Below.size (by assumption) | (simp; done) | (simp; omega)) _ | refine Below.drew ?_ | refine below_drewN ?_ _))
  replace a1 := a1.all hB
  replace a2 := a2.all hB
  replace a3 := a3.all hB
  obtain ⟨W, hW⟩ : ∃ W', W' = ((w.alloc (.cells #[.slice (p1).fa (p1).frs.length (p1).fc, .slice (p1).da (p1).dfs.length (p1).dc] 25)).alloc (.cells #[.slice (p2).fa (p2).frs.length (p2).fc, .slice (p2).da (p2).dfs.length (p2).dc] 25)).alloc (.cells #[.slice (p3).fa (p3).frs.length (p3).fc, .slice (p3).da (p3).dfs.length (p3).dc] 25) := ⟨_, rfl⟩
  obtain ⟨g3, hg3⟩ : ∃ g, g = w.heap.size + 1 + 1 := ⟨_, rfl⟩
  obtain ⟨g2, hg2⟩ : ∃ g, g = w.heap.size + 1 := ⟨_, rfl⟩
  rw [← hg3] at k3 ⊢
  rw [← hg2] at k2 ⊢
  rw [← hW] at k1 k2 k3 a1 a2 a3 hB ⊢
  clear hW hg2 hg3
  obtain ⟨x0, n, H1, HN⟩ : ∃ x0 n, Hid (joinP (PtM.er ⟨[], [], none, 0, none, 0⟩) p1.er = (x0, n)) ∧ Hid (n = 0 → x0 = p1.er ∧ p1.er.Ok) := nil_any p1.er
  ((have q0 := (k1).cell 0; have q1 := (k1).cell 1; have q2 := (k1).cell 0; have q3 := (k1).cell 1); go_wp2_with fail; refine (join_any ⟨[], [], none, 0, none, 0⟩ p1 _ (nil_own _ 0).at_ a1).mono ?_; rintro e w1 ⟨p4, rfl, o4, e4, hb1⟩; rw [H1.out] at e4 ⊢; clear q0 q1 q2 q3; go_upto_region 2 with (fail); have hs := hb1.alloc hb1.size (.cells #[.slice (p4).fa (p4).frs.length (p4).fc, .slice (p4).da (p4).dfs.length (p4).dc] 25); have k4 := Blk.new w1 25 #[.slice p4.fa p4.frs.length p4.fc, .slice p4.da p4.dfs.length p4.dc]; have a4 := (o4.alloc (.cells #[.slice (p4).fa (p4).frs.length (p4).fc, .slice (p4).da (p4).dfs.length (p4).dc] 25)).at_; obtain ⟨g4, hg4⟩ : ∃ g, g = w1.heap.size := ⟨_, rfl⟩; obtain ⟨W, hW⟩ : ∃ W', W' = w1.alloc (.cells #[.slice (p4).fa (p4).frs.length (p4).fc, .slice (p4).da (p4).dfs.length (p4).dc] 25) := ⟨_, rfl⟩; rw [← hg4] at k4 ⊢; rw [← hW] at hs k4 a4 ⊢; clear hW hg4 hb1 o4; (have kN := k4; have aN := a4; clear k4 a4; ((try replace a1 := a1.all hs); (try replace a2 := a2.all hs); (try replace a3 := a3.all hs); (try replace a4 := a4.all hs); (try replace a5 := a5.all hs); (try replace a6 := a6.all hs); (try replace a7 := a7.all hs); (try replace a8 := a8.all hs); (try replace a9 := a9.all hs); (try replace k1 := k1.all hs); (try replace k2 := k2.all hs); (try replace k3 := k3.all hs); (try replace k4 := k4.all hs); (try replace k5 := k5.all hs); (try replace k6 := k6.all hs); (try replace k7 := k7.all hs); (try replace k8 := k8.all hs); (try replace k9 := k9.all hs); (try replace r1 := own_all r1 hs); (try replace r2 := own_all r2 hs); (try replace r3 := own_all r3 hs); (try replace r4 := own_all r4 hs); replace hB := hB.trans (hs.mono hB.size)); have k4 := kN; have a4 := aN; clear kN aN hs))
  go_upto_if 26 with (fail)
  go_cut [6] (fun s wx => Blk wx w.heap.size 25 #[.slice p1.fa p1.frs.length p1.fc, .slice p1.da p1.dfs.length p1.dc] ∧ Blk wx g2 25 #[.slice p2.fa p2.frs.length p2.fc, .slice p2.da p2.dfs.length p2.dc] ∧
    Blk wx g3 25 #[.slice p3.fa p3.frs.length p3.fc, .slice p3.da p3.dfs.length p3.dc] ∧ p1.At wx wx.heap.size ∧ p2.At wx wx.heap.size ∧ p3.At wx wx.heap.size ∧ Below w.heap.size w wx)
  case first =>
    by_cases hn : n = 0
    · obtain ⟨hx, hok⟩ := HN.out hn
      have H2 : Hid (joinP p1.er (PtM.er ⟨[], [], none, 0, none, 0⟩) = (p1.er, 0)) := joinP_nil hok
      have S4 : Hid (decide (p4.er = p1.er) = true) := decide_eq_true (e4.trans hx)
      have hn0 : (n == 0) = true := by simp [hn]
      clear hx hok hn
      go_upto_region 3 with (fail)
      ((have q0 := (k1).cell 0; have q1 := (k1).cell 1; have q2 := (k1).cell 0; have q3 := (k1).cell 1); go_wp2_with fail; refine (join_any p1 ⟨[], [], none, 0, none, 0⟩ _ a1 (nil_own _ 0).at_).mono ?_; rintro e w1 ⟨p5, rfl, o5, e5, hb1⟩; rw [H2.out] at e5 ⊢; clear q0 q1 q2 q3; go_upto_region 4 with (fail); have hs := hb1.alloc hb1.size (.cells #[.slice (p5).fa (p5).frs.length (p5).fc, .slice (p5).da (p5).dfs.length (p5).dc] 25); have k5 := Blk.new w1 25 #[.slice p5.fa p5.frs.length p5.fc, .slice p5.da p5.dfs.length p5.dc]; have a5 := (o5.alloc (.cells #[.slice (p5).fa (p5).frs.length (p5).fc, .slice (p5).da (p5).dfs.length (p5).dc] 25)).at_; obtain ⟨g5, hg5⟩ : ∃ g, g = w1.heap.size := ⟨_, rfl⟩; obtain ⟨W, hW⟩ : ∃ W', W' = w1.alloc (.cells #[.slice (p5).fa (p5).frs.length (p5).fc, .slice (p5).da (p5).dfs.length (p5).dc] 25) := ⟨_, rfl⟩; rw [← hg5] at k5 ⊢; rw [← hW] at hs k5 a5 ⊢; clear hW hg5 hb1 o5; (have kN := k5; have aN := a5; clear k5 a5; ((try replace a1 := a1.all hs); (try replace a2 := a2.all hs); (try replace a3 := a3.all hs); (try replace a4 := a4.all hs); (try replace a5 := a5.all hs); (try replace a6 := a6.all hs); (try replace a7 := a7.all hs); (try replace a8 := a8.all hs); (try replace a9 := a9.all hs); (try replace k1 := k1.all hs); (try replace k2 := k2.all hs); (try replace k3 := k3.all hs); (try replace k4 := k4.all hs); (try replace k5 := k5.all hs); (try replace k6 := k6.all hs); (try replace k7 := k7.all hs); (try replace k8 := k8.all hs); (try replace k9 := k9.all hs); (try replace r1 := own_all r1 hs); (try replace r2 := own_all r2 hs); (try replace r3 := own_all r3 hs); (try replace r4 := own_all r4 hs); replace hB := hB.trans (hs.mono hB.size)); have k5 := kN; have a5 := aN; clear kN aN hs))
      have S5 : Hid (decide (p5.er = p1.er) = true) := decide_eq_true e5
      clear e4 e5
      ((have q0 := (k4).cell 0; have q1 := (k4).cell 1; have q2 := (k1).cell 0; have q3 := (k1).cell 1); go_wp2_with fail; refine (same_any p4 p1 _ a4 a1).mono ?_; rintro e w1 ⟨rfl, hs⟩; rw [S4.out]; clear q0 q1 q2 q3; ((try replace a1 := a1.all hs); (try replace a2 := a2.all hs); (try replace a3 := a3.all hs); (try replace a4 := a4.all hs); (try replace a5 := a5.all hs); (try replace a6 := a6.all hs); (try replace a7 := a7.all hs); (try replace a8 := a8.all hs); (try replace a9 := a9.all hs); (try replace k1 := k1.all hs); (try replace k2 := k2.all hs); (try replace k3 := k3.all hs); (try replace k4 := k4.all hs); (try replace k5 := k5.all hs); (try replace k6 := k6.all hs); (try replace k7 := k7.all hs); (try replace k8 := k8.all hs); (try replace k9 := k9.all hs); (try replace r1 := own_all r1 hs); (try replace r2 := own_all r2 hs); (try replace r3 := own_all r3 hs); (try replace r4 := own_all r4 hs); replace hB := hB.trans (hs.mono hB.size)); clear hs)
      ((have q0 := (k5).cell 0; have q1 := (k5).cell 1; have q2 := (k1).cell 0; have q3 := (k1).cell 1); go_wp2_with fail; refine (same_any p5 p1 _ a5 a1).mono ?_; rintro e w1 ⟨rfl, hs⟩; rw [S5.out]; clear q0 q1 q2 q3; ((try replace a1 := a1.all hs); (try replace a2 := a2.all hs); (try replace a3 := a3.all hs); (try replace a4 := a4.all hs); (try replace a5 := a5.all hs); (try replace a6 := a6.all hs); (try replace a7 := a7.all hs); (try replace a8 := a8.all hs); (try replace a9 := a9.all hs); (try replace k1 := k1.all hs); (try replace k2 := k2.all hs); (try replace k3 := k3.all hs); (try replace k4 := k4.all hs); (try replace k5 := k5.all hs); (try replace k6 := k6.all hs); (try replace k7 := k7.all hs); (try replace k8 := k8.all hs); (try replace k9 := k9.all hs); (try replace r1 := own_all r1 hs); (try replace r2 := own_all r2 hs); (try replace r3 := own_all r3 hs); (try replace r4 := own_all r4 hs); replace hB := hB.trans (hs.mono hB.size)); clear hs)
      go_wp2
      go_meet
      exact ⟨k1, k2, k3, a1, a2, a3, hB⟩
    · have hn0 : (n == 0) = false := by simpa using hn
      clear hn
      go_wp2
      go_meet
      exact ⟨k1, k2, k3, a1, a2, a3, hB⟩
  case rest =>
    clear k1 k2 k3 a1 a2 a3 hB
    obtain ⟨k1, k2, k3, a1, a2, a3, hB⟩ := hcut
    obtain ⟨xA, nA, H6⟩ : ∃ x n, Hid (joinP p1.er p2.er = (x, n)) := ⟨_, _, rfl⟩
    obtain ⟨xB, nB, H7⟩ : ∃ x n, Hid (joinP p2.er p3.er = (x, n)) := ⟨_, _, rfl⟩
    ((have q0 := (k1).cell 0; have q1 := (k1).cell 1; have q2 := (k2).cell 0; have q3 := (k2).cell 1); go_wp2_with fail; refine (join_any p1 p2 _ a1 a2).mono ?_; rintro e w1 ⟨p6, rfl, o6, e6, hb1⟩; rw [H6.out] at e6 ⊢; clear q0 q1 q2 q3; go_upto_region 7 with (fail); have hs := hb1.alloc hb1.size (.cells #[.slice (p6).fa (p6).frs.length (p6).fc, .slice (p6).da (p6).dfs.length (p6).dc] 25); have k6 := Blk.new w1 25 #[.slice p6.fa p6.frs.length p6.fc, .slice p6.da p6.dfs.length p6.dc]; have a6 := (o6.alloc (.cells #[.slice (p6).fa (p6).frs.length (p6).fc, .slice (p6).da (p6).dfs.length (p6).dc] 25)).at_; obtain ⟨g6, hg6⟩ : ∃ g, g = w1.heap.size := ⟨_, rfl⟩; obtain ⟨W, hW⟩ : ∃ W', W' = w1.alloc (.cells #[.slice (p6).fa (p6).frs.length (p6).fc, .slice (p6).da (p6).dfs.length (p6).dc] 25) := ⟨_, rfl⟩; rw [← hg6] at k6 ⊢; rw [← hW] at hs k6 a6 ⊢; clear hW hg6 hb1 o6; (have kN := k6; have aN := a6; clear k6 a6; ((try replace a1 := a1.all hs); (try replace a2 := a2.all hs); (try replace a3 := a3.all hs); (try replace a4 := a4.all hs); (try replace a5 := a5.all hs); (try replace a6 := a6.all hs); (try replace a7 := a7.all hs); (try replace a8 := a8.all hs); (try replace a9 := a9.all hs); (try replace k1 := k1.all hs); (try replace k2 := k2.all hs); (try replace k3 := k3.all hs); (try replace k4 := k4.all hs); (try replace k5 := k5.all hs); (try replace k6 := k6.all hs); (try replace k7 := k7.all hs); (try replace k8 := k8.all hs); (try replace k9 := k9.all hs); (try replace r1 := own_all r1 hs); (try replace r2 := own_all r2 hs); (try replace r3 := own_all r3 hs); (try replace r4 := own_all r4 hs); replace hB := hB.trans (hs.mono hB.size)); have k6 := kN; have a6 := aN; clear kN aN hs))
    ((have q0 := (k2).cell 0; have q1 := (k2).cell 1; have q2 := (k3).cell 0; have q3 := (k3).cell 1); go_wp2_with fail; refine (join_any p2 p3 _ a2 a3).mono ?_; rintro e w1 ⟨p7, rfl, o7, e7, hb1⟩; rw [H7.out] at e7 ⊢; clear q0 q1 q2 q3; go_upto_region 8 with (fail); have hs := hb1.alloc hb1.size (.cells #[.slice (p7).fa (p7).frs.length (p7).fc, .slice (p7).da (p7).dfs.length (p7).dc] 25); have k7 := Blk.new w1 25 #[.slice p7.fa p7.frs.length p7.fc, .slice p7.da p7.dfs.length p7.dc]; have a7 := (o7.alloc (.cells #[.slice (p7).fa (p7).frs.length (p7).fc, .slice (p7).da (p7).dfs.length (p7).dc] 25)).at_; obtain ⟨g7, hg7⟩ : ∃ g, g = w1.heap.size := ⟨_, rfl⟩; obtain ⟨W, hW⟩ : ∃ W', W' = w1.alloc (.cells #[.slice (p7).fa (p7).frs.length (p7).fc, .slice (p7).da (p7).dfs.length (p7).dc] 25) := ⟨_, rfl⟩; rw [← hg7] at k7 ⊢; rw [← hW] at hs k7 a7 ⊢; clear hW hg7 hb1 o7; (have kN := k7; have aN := a7; clear k7 a7; ((try replace a1 := a1.all hs); (try replace a2 := a2.all hs); (try replace a3 := a3.all hs); (try replace a4 := a4.all hs); (try replace a5 := a5.all hs); (try replace a6 := a6.all hs); (try replace a7 := a7.all hs); (try replace a8 := a8.all hs); (try replace a9 := a9.all hs); (try replace k1 := k1.all hs); (try replace k2 := k2.all hs); (try replace k3 := k3.all hs); (try replace k4 := k4.all hs); (try replace k5 := k5.all hs); (try replace k6 := k6.all hs); (try replace k7 := k7.all hs); (try replace k8 := k8.all hs); (try replace k9 := k9.all hs); (try replace r1 := own_all r1 hs); (try replace r2 := own_all r2 hs); (try replace r3 := own_all r3 hs); (try replace r4 := own_all r4 hs); replace hB := hB.trans (hs.mono hB.size)); have k7 := kN; have a7 := aN; clear kN aN hs))
    (go_wp2_with fail; refine (spliced_any _).mono ?_; rintro e w1 ⟨rfl, hs⟩; ((try replace a1 := a1.all hs); (try replace a2 := a2.all hs); (try replace a3 := a3.all hs); (try replace a4 := a4.all hs); (try replace a5 := a5.all hs); (try replace a6 := a6.all hs); (try replace a7 := a7.all hs); (try replace a8 := a8.all hs); (try replace a9 := a9.all hs); (try replace k1 := k1.all hs); (try replace k2 := k2.all hs); (try replace k3 := k3.all hs); (try replace k4 := k4.all hs); (try replace k5 := k5.all hs); (try replace k6 := k6.all hs); (try replace k7 := k7.all hs); (try replace k8 := k8.all hs); (try replace k9 := k9.all hs); (try replace r1 := own_all r1 hs); (try replace r2 := own_all r2 hs); (try replace r3 := own_all r3 hs); (try replace r4 := own_all r4 hs); replace hB := hB.trans (hs.mono hB.size)); clear hs)
    by_cases hAB : nA = 0 ∧ nB = 0
    · obtain ⟨hA, hBz⟩ := hAB
      obtain ⟨q6, q7, hr⟩ := order_ok (a := p1.er) (b := p2.er) (c := p3.er) (by rw [H6.out]; exact hA) (by rw [H7.out]; exact hBz)
      have x6 : xA = joinU p1.er p2.er := by have := H6.out.symm.trans q6; injection this
      have x7 : xB = joinU p2.er p3.er := by have := H7.out.symm.trans q7; injection this
      subst hA hBz x6 x7
      go_upto_region 10 with (fail)
      obtain ⟨Z, hZ⟩ : ∃ Z, joinU (joinU p1.er p2.er) p3.er = Z := ⟨_, rfl⟩
      obtain ⟨Y, m, H8, H9, H4, HZ⟩ : ∃ Y m, Hid (joinP p6.er p3.er = (Y, m)) ∧ Hid (joinP p1.er p7.er = (Y, m)) ∧ Hid (allP [p1.er, p2.er, p3.er] = (Y, m)) ∧ Hid ((m = 0 ∧ ckPart Y = 0) ∨ m = 10) := by
        rw [e6, e7]
        rcases hr with ⟨h1, h2, h3, h4⟩ | ⟨h1, h2, h3⟩
        · exact ⟨_, _, h1, h2, h3, .inl ⟨rfl, h4⟩⟩
        · exact ⟨_, _, h1, h2, h3, .inr rfl⟩
      clear hr q6 q7 hZ H6 H7
      ((have q0 := (k6).cell 0; have q1 := (k6).cell 1; have q2 := (k3).cell 0; have q3 := (k3).cell 1); go_wp2_with fail; refine (join_any p6 p3 _ a6 a3).mono ?_; rintro e w1 ⟨p8, rfl, o8, e8, hb1⟩; rw [H8.out] at e8 ⊢; clear q0 q1 q2 q3; go_upto_region 11 with (fail); have hs := hb1.alloc hb1.size (.cells #[.slice (p8).fa (p8).frs.length (p8).fc, .slice (p8).da (p8).dfs.length (p8).dc] 25); have k8 := Blk.new w1 25 #[.slice p8.fa p8.frs.length p8.fc, .slice p8.da p8.dfs.length p8.dc]; have a8 := (o8.alloc (.cells #[.slice (p8).fa (p8).frs.length (p8).fc, .slice (p8).da (p8).dfs.length (p8).dc] 25)).at_; obtain ⟨g8, hg8⟩ : ∃ g, g = w1.heap.size := ⟨_, rfl⟩; obtain ⟨W, hW⟩ : ∃ W', W' = w1.alloc (.cells #[.slice (p8).fa (p8).frs.length (p8).fc, .slice (p8).da (p8).dfs.length (p8).dc] 25) := ⟨_, rfl⟩; rw [← hg8] at k8 ⊢; rw [← hW] at hs k8 a8 ⊢; clear hW hg8 hb1 o8; (have kN := k8; have aN := a8; clear k8 a8; ((try replace a1 := a1.all hs); (try replace a2 := a2.all hs); (try replace a3 := a3.all hs); (try replace a4 := a4.all hs); (try replace a5 := a5.all hs); (try replace a6 := a6.all hs); (try replace a7 := a7.all hs); (try replace a8 := a8.all hs); (try replace a9 := a9.all hs); (try replace k1 := k1.all hs); (try replace k2 := k2.all hs); (try replace k3 := k3.all hs); (try replace k4 := k4.all hs); (try replace k5 := k5.all hs); (try replace k6 := k6.all hs); (try replace k7 := k7.all hs); (try replace k8 := k8.all hs); (try replace k9 := k9.all hs); (try replace r1 := own_all r1 hs); (try replace r2 := own_all r2 hs); (try replace r3 := own_all r3 hs); (try replace r4 := own_all r4 hs); replace hB := hB.trans (hs.mono hB.size)); have k8 := kN; have a8 := aN; clear kN aN hs))
      ((have q0 := (k1).cell 0; have q1 := (k1).cell 1; have q2 := (k7).cell 0; have q3 := (k7).cell 1); go_wp2_with fail; refine (join_any p1 p7 _ a1 a7).mono ?_; rintro e w1 ⟨p9, rfl, o9, e9, hb1⟩; rw [H9.out] at e9 ⊢; clear q0 q1 q2 q3; go_upto_region 12 with (fail); have hs := hb1.alloc hb1.size (.cells #[.slice (p9).fa (p9).frs.length (p9).fc, .slice (p9).da (p9).dfs.length (p9).dc] 25); have k9 := Blk.new w1 25 #[.slice p9.fa p9.frs.length p9.fc, .slice p9.da p9.dfs.length p9.dc]; have a9 := (o9.alloc (.cells #[.slice (p9).fa (p9).frs.length (p9).fc, .slice (p9).da (p9).dfs.length (p9).dc] 25)).at_; obtain ⟨g9, hg9⟩ : ∃ g, g = w1.heap.size := ⟨_, rfl⟩; obtain ⟨W, hW⟩ : ∃ W', W' = w1.alloc (.cells #[.slice (p9).fa (p9).frs.length (p9).fc, .slice (p9).da (p9).dfs.length (p9).dc] 25) := ⟨_, rfl⟩; rw [← hg9] at k9 ⊢; rw [← hW] at hs k9 a9 ⊢; clear hW hg9 hb1 o9; (have kN := k9; have aN := a9; clear k9 a9; ((try replace a1 := a1.all hs); (try replace a2 := a2.all hs); (try replace a3 := a3.all hs); (try replace a4 := a4.all hs); (try replace a5 := a5.all hs); (try replace a6 := a6.all hs); (try replace a7 := a7.all hs); (try replace a8 := a8.all hs); (try replace a9 := a9.all hs); (try replace k1 := k1.all hs); (try replace k2 := k2.all hs); (try replace k3 := k3.all hs); (try replace k4 := k4.all hs); (try replace k5 := k5.all hs); (try replace k6 := k6.all hs); (try replace k7 := k7.all hs); (try replace k8 := k8.all hs); (try replace k9 := k9.all hs); (try replace r1 := own_all r1 hs); (try replace r2 := own_all r2 hs); (try replace r3 := own_all r3 hs); (try replace r4 := own_all r4 hs); replace hB := hB.trans (hs.mono hB.size)); have k9 := kN; have a9 := aN; clear kN aN hs))
      clear H8 H9 e6 e7 a6 a7 k6 k7
      have q0 := k1.cell 0
      have q1 := k1.cell 1
      have q2 := k2.cell 0
      have q3 := k2.cell 1
      have q4 := k3.cell 0
      have q5 := k3.cell 1
      go_wp2_with fail
      have hs0 : Below W.heap.size W (W.alloc (.cells #[.slice p1.fa p1.frs.length p1.fc, .slice p1.da p1.dfs.length p1.dc, .slice p2.fa p2.frs.length p2.fc, .slice p2.da p2.dfs.length p2.dc, .slice p3.fa p3.frs.length p3.fc, .slice p3.da p3.dfs.length p3.dc] 25)) := by (repeat' (first | exact Below.refl _ _ | assumption | refine Below.setCell ?_ (by first | omega | exact Below.size (by assumption) | (simp; done) | (simp; omega)) _ | refine Below.alloc ?_ (by first | omega | exact Below.size (by assumption) | (simp; done) | (simp; omega)) _ | refine Below.drew ?_ | refine below_drewN ?_ _))
      have kr := (Blk.new W 25 #[.slice p1.fa p1.frs.length p1.fc, .slice p1.da p1.dfs.length p1.dc, .slice p2.fa p2.frs.length p2.fc, .slice p2.da p2.dfs.length p2.dc, .slice p3.fa p3.frs.length p3.fc, .slice p3.da p3.dfs.length p3.dc]).reads (size := 2) (n := 3) rfl
      refine (all_any (some ⟨W.heap.size, 0, none⟩) 3 [p1, p2, p3] _ ⟨kr, ?_⟩ (by simp)).mono ?_
      · intro p hp
        simp only [List.mem_cons, List.not_mem_nil, or_false] at hp
        rcases hp with rfl | rfl | rfl
        · exact a1.all hs0
        · exact a2.all hs0
        · exact a3.all hs0
      rintro e w1 ⟨p4, rfl, o4, e4, hb1⟩
      rw [show List.map PtM.er [p1, p2, p3] = [p1.er, p2.er, p3.er] from rfl, H4.out] at e4 ⊢
      clear q0 q1 q2 q3 q4 q5 kr
      go_upto_region 13 with (fail)
      have hs := (hs0.trans (hb1.mono hs0.size)).alloc (Nat.le_trans hs0.size hb1.size) (.cells #[.slice (p4).fa (p4).frs.length (p4).fc, .slice (p4).da (p4).dfs.length (p4).dc] 25)
      have k4 := Blk.new w1 25 #[.slice p4.fa p4.frs.length p4.fc, .slice p4.da p4.dfs.length p4.dc]
      have a4 := (o4.alloc (.cells #[.slice (p4).fa (p4).frs.length (p4).fc, .slice (p4).da (p4).dfs.length (p4).dc] 25)).at_
      obtain ⟨g4, hg4⟩ : ∃ g, g = w1.heap.size := ⟨_, rfl⟩
      obtain ⟨W, hW⟩ : ∃ W', W' = w1.alloc (.cells #[.slice (p4).fa (p4).frs.length (p4).fc, .slice (p4).da (p4).dfs.length (p4).dc] 25) := ⟨_, rfl⟩
      rw [← hg4] at k4 ⊢
      rw [← hW] at hs k4 a4 ⊢
      clear hW hg4 hb1 o4 hs0
      (have kN := k4; have aN := a4; clear k4 a4; ((try replace a1 := a1.all hs); (try replace a2 := a2.all hs); (try replace a3 := a3.all hs); (try replace a4 := a4.all hs); (try replace a5 := a5.all hs); (try replace a6 := a6.all hs); (try replace a7 := a7.all hs); (try replace a8 := a8.all hs); (try replace a9 := a9.all hs); (try replace k1 := k1.all hs); (try replace k2 := k2.all hs); (try replace k3 := k3.all hs); (try replace k4 := k4.all hs); (try replace k5 := k5.all hs); (try replace k6 := k6.all hs); (try replace k7 := k7.all hs); (try replace k8 := k8.all hs); (try replace k9 := k9.all hs); (try replace r1 := own_all r1 hs); (try replace r2 := own_all r2 hs); (try replace r3 := own_all r3 hs); (try replace r4 := own_all r4 hs); replace hB := hB.trans (hs.mono hB.size)); have k4 := kN; have a4 := aN; clear kN aN hs)
      rcases HZ.out with ⟨hm, hck⟩ | hm
      · subst hm
        have S1 : Hid (decide (p8.er = p9.er) = true) := decide_eq_true (e8.trans e9.symm)
        have S2 : Hid (decide (p8.er = p4.er) = true) := decide_eq_true (e8.trans e4.symm)
        have C1 : Hid (ckPart p8.er = 0) := by show _ = _; rw [e8]; exact hck
        clear HZ H4 e4 e8 e9 hck
        ((have q0 := (k8).cell 0; have q1 := (k8).cell 1; have q2 := (k9).cell 0; have q3 := (k9).cell 1); go_wp2_with fail; refine (same_any p8 p9 _ a8 a9).mono ?_; rintro e w1 ⟨rfl, hs⟩; rw [S1.out]; clear q0 q1 q2 q3; ((try replace a1 := a1.all hs); (try replace a2 := a2.all hs); (try replace a3 := a3.all hs); (try replace a4 := a4.all hs); (try replace a5 := a5.all hs); (try replace a6 := a6.all hs); (try replace a7 := a7.all hs); (try replace a8 := a8.all hs); (try replace a9 := a9.all hs); (try replace k1 := k1.all hs); (try replace k2 := k2.all hs); (try replace k3 := k3.all hs); (try replace k4 := k4.all hs); (try replace k5 := k5.all hs); (try replace k6 := k6.all hs); (try replace k7 := k7.all hs); (try replace k8 := k8.all hs); (try replace k9 := k9.all hs); (try replace r1 := own_all r1 hs); (try replace r2 := own_all r2 hs); (try replace r3 := own_all r3 hs); (try replace r4 := own_all r4 hs); replace hB := hB.trans (hs.mono hB.size)); clear hs)
        ((have q0 := (k8).cell 0; have q1 := (k8).cell 1; have q2 := (k4).cell 0; have q3 := (k4).cell 1); go_wp2_with fail; refine (same_any p8 p4 _ a8 a4).mono ?_; rintro e w1 ⟨rfl, hs⟩; rw [S2.out]; clear q0 q1 q2 q3; ((try replace a1 := a1.all hs); (try replace a2 := a2.all hs); (try replace a3 := a3.all hs); (try replace a4 := a4.all hs); (try replace a5 := a5.all hs); (try replace a6 := a6.all hs); (try replace a7 := a7.all hs); (try replace a8 := a8.all hs); (try replace a9 := a9.all hs); (try replace k1 := k1.all hs); (try replace k2 := k2.all hs); (try replace k3 := k3.all hs); (try replace k4 := k4.all hs); (try replace k5 := k5.all hs); (try replace k6 := k6.all hs); (try replace k7 := k7.all hs); (try replace k8 := k8.all hs); (try replace k9 := k9.all hs); (try replace r1 := own_all r1 hs); (try replace r2 := own_all r2 hs); (try replace r3 := own_all r3 hs); (try replace r4 := own_all r4 hs); replace hB := hB.trans (hs.mono hB.size)); clear hs)
        (have q0 := (k8).cell 0; have q1 := (k8).cell 1; go_wp2_with fail; refine (check_any p8 _ a8).mono ?_; rintro e w1 ⟨rfl, hs⟩; rw [C1.out]; clear q0 q1; ((try replace a1 := a1.all hs); (try replace a2 := a2.all hs); (try replace a3 := a3.all hs); (try replace a4 := a4.all hs); (try replace a5 := a5.all hs); (try replace a6 := a6.all hs); (try replace a7 := a7.all hs); (try replace a8 := a8.all hs); (try replace a9 := a9.all hs); (try replace k1 := k1.all hs); (try replace k2 := k2.all hs); (try replace k3 := k3.all hs); (try replace k4 := k4.all hs); (try replace k5 := k5.all hs); (try replace k6 := k6.all hs); (try replace k7 := k7.all hs); (try replace k8 := k8.all hs); (try replace k9 := k9.all hs); (try replace r1 := own_all r1 hs); (try replace r2 := own_all r2 hs); (try replace r3 := own_all r3 hs); (try replace r4 := own_all r4 hs); replace hB := hB.trans (hs.mono hB.size)); clear hs)
        go_wp2
        go_ret
        exact ⟨rfl, hB⟩
      · subst hm
        clear HZ H4 e4 e8 e9
        go_wp2
        go_ret
        exact ⟨rfl, hB⟩
    · have t : (nA != 0) = true ∨ ((nA != 0) = false ∧ (nB != 0) = true) := by
        by_cases h : nA = 0
        · exact .inr ⟨by simp [h], by simpa using fun h2 => hAB ⟨h, h2⟩⟩
        · exact .inl (by simpa using h)
      clear hAB
      rcases t with t1 | ⟨t1, t2⟩
      · (go_wp2_with fail; refine (spliced_any _).mono ?_; rintro e w1 ⟨rfl, hs⟩; ((try replace a1 := a1.all hs); (try replace a2 := a2.all hs); (try replace a3 := a3.all hs); (try replace a4 := a4.all hs); (try replace a5 := a5.all hs); (try replace a6 := a6.all hs); (try replace a7 := a7.all hs); (try replace a8 := a8.all hs); (try replace a9 := a9.all hs); (try replace k1 := k1.all hs); (try replace k2 := k2.all hs); (try replace k3 := k3.all hs); (try replace k4 := k4.all hs); (try replace k5 := k5.all hs); (try replace k6 := k6.all hs); (try replace k7 := k7.all hs); (try replace k8 := k8.all hs); (try replace k9 := k9.all hs); (try replace r1 := own_all r1 hs); (try replace r2 := own_all r2 hs); (try replace r3 := own_all r3 hs); (try replace r4 := own_all r4 hs); replace hB := hB.trans (hs.mono hB.size)); clear hs)
        go_wp2
        go_ret
        exact ⟨rfl, hB⟩
      · (go_wp2_with fail; refine (spliced_any _).mono ?_; rintro e w1 ⟨rfl, hs⟩; ((try replace a1 := a1.all hs); (try replace a2 := a2.all hs); (try replace a3 := a3.all hs); (try replace a4 := a4.all hs); (try replace a5 := a5.all hs); (try replace a6 := a6.all hs); (try replace a7 := a7.all hs); (try replace a8 := a8.all hs); (try replace a9 := a9.all hs); (try replace k1 := k1.all hs); (try replace k2 := k2.all hs); (try replace k3 := k3.all hs); (try replace k4 := k4.all hs); (try replace k5 := k5.all hs); (try replace k6 := k6.all hs); (try replace k7 := k7.all hs); (try replace k8 := k8.all hs); (try replace k9 := k9.all hs); (try replace r1 := own_all r1 hs); (try replace r2 := own_all r2 hs); (try replace r3 := own_all r3 hs); (try replace r4 := own_all r4 hs); replace hB := hB.trans (hs.mono hB.size)); clear hs)
        go_wp2
        go_ret
        exact ⟨rfl, hB⟩
end Go.Proofs.Ytkkjfjbkhafaiaa
