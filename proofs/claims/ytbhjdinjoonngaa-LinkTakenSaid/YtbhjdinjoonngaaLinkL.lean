/- ropewalklaw.linked: the call returns true. -/
import Derived.Test.YtbhjdinjoonngaaLinkW
import Derived.Test.YtbhjdinjoonngaaLkG
import Derived.Test.YtbhjdinjoonngaaJoinW
set_option linter.all false
namespace Go.Proofs.Ytbhjdinjoonngaa
open Go.RowKit

set_option maxRecDepth 100000 in
set_option maxHeartbeats 20000000 in
theorem linked_any (w : World) : Calls Try.prog 50 #[] w fun e w' => e = .returned (.bool true) ∧ Below w.heap.size w w' := by
  go_enter Try.func50, Try.ntmps50
  go_wp2_with fail
  refine (two_any w).mono ?_
  rintro e w1 ⟨p1, p2, rfl, oa, ob, ea, eb, hb1⟩
  go_upto_region 2 with (fail)
  have hs := (Below.refl w1.heap.size w1).alloc (Nat.le_refl _) (.cells #[.slice (p1).fa (p1).frs.length (p1).fc, .slice (p1).da (p1).dfs.length (p1).dc] 44)
  have hs := hs.alloc (by simp) (.cells #[.slice (p2).fa (p2).frs.length (p2).fc, .slice (p2).da (p2).dfs.length (p2).dc] 44)
  have k1 := (Blk.new w1 44 #[.slice p1.fa p1.frs.length p1.fc, .slice p1.da p1.dfs.length p1.dc]).alloc (.cells #[.slice (p2).fa (p2).frs.length (p2).fc, .slice (p2).da (p2).dfs.length (p2).dc] 44)
  have k2 := Blk.new' (w1.alloc (.cells #[.slice (p1).fa (p1).frs.length (p1).fc, .slice (p1).da (p1).dfs.length (p1).dc] 44)) 44 #[.slice p2.fa p2.frs.length p2.fc, .slice p2.da p2.dfs.length p2.dc] (g := w1.heap.size + 1) (by simp)
  have a1 := (oa.all hs).at_
  have a2 := (ob.all hs).at_
  have hB := hb1.trans (hs.mono hb1.size)
  obtain ⟨W, hW⟩ : ∃ W', W' = (w1.alloc (.cells #[.slice (p1).fa (p1).frs.length (p1).fc, .slice (p1).da (p1).dfs.length (p1).dc] 44)).alloc (.cells #[.slice (p2).fa (p2).frs.length (p2).fc, .slice (p2).da (p2).dfs.length (p2).dc] 44) := ⟨_, rfl⟩
  obtain ⟨g2, hg2⟩ : ∃ g, g = w1.heap.size + 1 := ⟨_, rfl⟩
  obtain ⟨g1, hg1⟩ : ∃ g, g = w1.heap.size := ⟨_, rfl⟩
  rw [← hg2] at k2 ⊢
  rw [← hg1] at k1 ⊢
  rw [← hW] at k1 k2 a1 a2 hB ⊢
  clear hW hg1 hg2 hs hb1 oa ob
  have H1 : Hid (joinP p1.er p2.er = (twoL, 0)) := by show _ = _; rw [ea, eb]; exact lk_join
  have EA := Lib.hid ea
  clear ea eb
  ((have q0 := (k1).cell 0; have q1 := (k1).cell 1; have q2 := (k2).cell 0; have q3 := (k2).cell 1); go_wp2_with fail; refine (join_any p1 p2 _ a1 a2).mono ?_; rintro e w1 ⟨p3, rfl, o3, e3, hb1⟩; rw [H1.out] at e3 ⊢; clear q0 q1 q2 q3; go_upto_region 3 with (fail); have hs := hb1.alloc hb1.size (.cells #[.slice (p3).fa (p3).frs.length (p3).fc, .slice (p3).da (p3).dfs.length (p3).dc] 44); have k3 := Blk.new w1 44 #[.slice p3.fa p3.frs.length p3.fc, .slice p3.da p3.dfs.length p3.dc]; have a3 := (o3.alloc (.cells #[.slice (p3).fa (p3).frs.length (p3).fc, .slice (p3).da (p3).dfs.length (p3).dc] 44)).at_; obtain ⟨g3, hg3⟩ : ∃ g, g = w1.heap.size := ⟨_, rfl⟩; obtain ⟨W, hW⟩ : ∃ W', W' = w1.alloc (.cells #[.slice (p3).fa (p3).frs.length (p3).fc, .slice (p3).da (p3).dfs.length (p3).dc] 44) := ⟨_, rfl⟩; rw [← hg3] at k3 ⊢; rw [← hW] at hs k3 a3 ⊢; clear hW hg3 hb1 o3; (have kN := k3; have aN := a3; clear k3 a3; ((try replace a1 := a1.all hs); (try replace a2 := a2.all hs); (try replace a3 := a3.all hs); (try replace a4 := a4.all hs); (try replace a5 := a5.all hs); (try replace a6 := a6.all hs); (try replace a7 := a7.all hs); (try replace a8 := a8.all hs); (try replace a9 := a9.all hs); (try replace k1 := k1.all hs); (try replace k2 := k2.all hs); (try replace k3 := k3.all hs); (try replace k4 := k4.all hs); (try replace k5 := k5.all hs); (try replace k6 := k6.all hs); (try replace k7 := k7.all hs); (try replace k8 := k8.all hs); (try replace k9 := k9.all hs); (try replace r1 := own_all r1 hs); (try replace r2 := own_all r2 hs); (try replace r3 := own_all r3 hs); (try replace r4 := own_all r4 hs); replace hB := hB.trans (hs.mono hB.size)); have k3 := kN; have a3 := aN; clear kN aN hs))
  have E3 := Lib.hid e3
  clear e3
  have q0 := k3.cell 0
  have q1 := k3.cell 1
  go_wp2_with fail
  refine (link_any p3 32 ⟨#[109, 97, 105, 110]⟩ W a3).mono ?_
  rintro e w1 ⟨A, c, segs, Au, cu, rfl, hm, hsa, hfl, _, hs⟩
  rw [E3.out, lk_p] at hm hfl ⊢
  obtain ⟨s1, s2, s3, rfl, he1, he2, he3⟩ := segs3 hm
  have hby := (er_at he1).2.1
  rw [lk_bytes] at hby
  dsimp only at hfl ⊢
  clear q0 q1 hm he1 he2 he3 hfl
  go_upto_region 4 with (fail)
  have hx := hs.alloc hs.size (.cells #[.int .i64 32, .slice A 3 c] 87)
  have kM := Blk.new w1 87 #[.int .i64 32, .slice A 3 c]
  have hx1 : Below w1.heap.size w1 (w1.alloc (.cells #[.int .i64 32, .slice A 3 c] 87)) := by (repeat' (first | exact Below.refl _ _ | assumption | refine Below.setCell ?_ (by first | omega | exact Below.size (by assumption) | (simp; done) | (simp; omega)) _ | refine Below.alloc ?_ (by first | omega | exact Below.size (by assumption) | (simp; done) | (simp; omega)) _ | refine Below.drew ?_ | refine below_drewN ?_ _))
  replace hsa := hsa.below hx1
  obtain ⟨gM, hgM⟩ : ∃ g, g = w1.heap.size := ⟨_, rfl⟩
  obtain ⟨W2, hW2⟩ : ∃ W', W' = w1.alloc (.cells #[.int .i64 32, .slice A 3 c] 87) := ⟨_, rfl⟩
  rw [← hgM] at kM ⊢
  rw [← hW2] at hx kM hsa ⊢
  clear hW2 hgM hx1 hs
  replace k1 := k1.all hx
  replace a1 := a1.all hx
  replace hB := hB.trans (hx.mono hB.size)
  clear hx k2 a2 k3 a3
  have q0 := k1.cell 0
  have q1 := k1.cell 1
  go_wp2_with fail
  refine (link_any p1 32 ⟨#[109, 97, 105, 110]⟩ W2 a1).mono ?_
  rintro e w3 ⟨A', c', segs', Au', cu', rfl, hm', _, hfl', _, hs⟩
  rw [EA.out, la_p] at hm' hfl' ⊢
  obtain rfl := segs0 hm'
  dsimp only at hfl' ⊢
  clear q0 q1 hm'
  replace kM := kM.all hs
  replace hsa := hsa.below hs
  replace hB := hB.trans (hs.mono hB.size)
  clear hs k1 a1
  go_upto_region 5 with (fail)
  have hx1 : Below w3.heap.size w3 (w3.alloc (.cells #[.int .i64 0, .slice A' 0 c'] 87)) := by (repeat' (first | exact Below.refl _ _ | assumption | refine Below.setCell ?_ (by first | omega | exact Below.size (by assumption) | (simp; done) | (simp; omega)) _ | refine Below.alloc ?_ (by first | omega | exact Below.size (by assumption) | (simp; done) | (simp; omega)) _ | refine Below.drew ?_ | refine below_drewN ?_ _))
  obtain ⟨W4, hW4⟩ : ∃ W', W' = w3.alloc (.cells #[.int .i64 0, .slice A' 0 c'] 87) := ⟨_, rfl⟩
  replace hsa := hsa.below hx1
  replace kM := kM.all hx1
  replace hB := hB.trans (hx1.mono hB.size)
  have hF := (hfl'.below hx1).more hx1.size
  rw [← hW4] at hsa kM hB hF ⊢
  clear hW4 hx1 hfl'
  obtain ⟨b, off, rfl, bl, c0, c1, c2, c3, c4⟩ := sg_get (l := [s1, s2, s3]) (i := 0) hsa.row rfl
  have hG := hsa.each s1 (by simp)
  rw [hby] at c1 hG
  simp only [Nat.zero_mul, Nat.add_zero] at c1
  have m0 := kM.cell 0
  have m1 := kM.cell 1
  clear hsa hby c0 c2 c3 c4
  have kN := Blk.new W4 5 #[.int .u8 9, .int .u8 36, .int .u8 0, .int .u8 0, .int .u8 7]
  go_wp2_with (first
    | (go_at_call 102
       refine (bytesEqual_any s1.ba (some ⟨W4.heap.size, 0, none⟩) s1.bc 5 [9, 36, 0, 0, 7] [9, 36, 0, 0, 7] (W4.alloc (.cells #[.int .u8 9, .int .u8 36, .int .u8 0, .int .u8 0, .int .u8 7] 5)) ?hr1 ?hr2).mono ?_
       case hr1 => exact (hG.alloc (Nat.le_refl _) _).more (by simp)
       case hr2 => exact kN.reads rfl
       rintro e w5 ⟨he, rfl⟩
       rw [show (([9, 36, 0, 0, 7] : List UInt8) == [9, 36, 0, 0, 7]) = true from by simp] at he
       subst he)
    | (go_at_call 52
       refine (equalFlxs_any Au' (some ⟨W4.heap.size + 1, 0, none⟩) cu' 1 [⟨7, ⟨#[102]⟩, 0, 0⟩] [⟨7, ⟨#[102]⟩, 0, 0⟩] ((W4.alloc (.cells #[.int .u8 9, .int .u8 36, .int .u8 0, .int .u8 0, .int .u8 7] 5)).alloc (.cells #[.int .i64 7, .string ⟨#[102]⟩, .int .i64 0, .int .i64 0] 114)) ?hr3 ?hr4 (by simp)).mono ?_
       case hr3 => exact (((hF.alloc (Nat.le_refl _) _).more (by simp)).alloc (Nat.le_refl _) _).more (by simp)
       case hr4 => exact (Blk.new' (W4.alloc (.cells #[.int .u8 9, .int .u8 36, .int .u8 0, .int .u8 0, .int .u8 7] 5)) 114 #[.int .i64 7, .string ⟨#[102]⟩, .int .i64 0, .int .i64 0] (g := W4.heap.size + 1) (by simp)).reads rfl
       rintro e w6 ⟨he, hb6⟩
       rw [show (([⟨7, ⟨#[102]⟩, 0, 0⟩] : List Flx) == [⟨7, ⟨#[102]⟩, 0, 0⟩]) = true from by simp] at he
       subst he))
  go_ret
  have hb3 : Below W4.heap.size W4 ((W4.alloc (.cells #[.int .u8 9, .int .u8 36, .int .u8 0, .int .u8 0, .int .u8 7] 5)).alloc (.cells #[.int .i64 7, .string ⟨#[102]⟩, .int .i64 0, .int .i64 0] 114)) := by (repeat' (first | exact Below.refl _ _ | assumption | refine Below.setCell ?_ (by first | omega | exact Below.size (by assumption) | (simp; done) | (simp; omega)) _ | refine Below.alloc ?_ (by first | omega | exact Below.size (by assumption) | (simp; done) | (simp; omega)) _ | refine Below.drew ?_ | refine below_drewN ?_ _))
  exact ⟨rfl, hB.trans ((hb3.trans (hb6.mono hb3.size)).mono hB.size)⟩
end Go.Proofs.Ytbhjdinjoonngaa
