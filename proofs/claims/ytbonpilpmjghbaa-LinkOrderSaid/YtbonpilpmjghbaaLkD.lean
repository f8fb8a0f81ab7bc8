/- LkD: texts that belong together. -/
import Derived.Test.YtbonpilpmjghbaaLinkW
import Derived.Test.YtbonpilpmjghbaaLkG
import Derived.Test.YtbonpilpmjghbaaJoinW
set_option linter.all false
/- ropewalklaw.linked: the call returns true. -/
namespace Go.Proofs.Ytbonpilpmjghbaa
open Go.RowKit

set_option maxRecDepth 100000 in
set_option maxHeartbeats 20000000 in
theorem linked_any (w : World) : Calls Try.prog 55 #[] w fun e w' => e = .returned (.bool true) ∧ Below w.heap.size w w' := by
  go_enter Try.func55, Try.ntmps55
  go_wp2_with fail
  refine (two_any w).mono ?_
  rintro e w1 ⟨p1, p2, rfl, oa, ob, ea, eb, hb1⟩
  go_upto_region 2 with (fail)
  have hs := (Below.refl w1.heap.size w1).alloc (Nat.le_refl _) (.cells #[.slice (p1).fa (p1).frs.length (p1).fc, .slice (p1).da (p1).dfs.length (p1).dc] 44)
  have hs := hs.alloc (by simp) (.cells #[.slice (p2).fa (p2).frs.length (p2).fc, .slice (p2).da (p2).dfs.length (p2).dc] 44)
  have k1 := (Blk.new w1 44 #[.slice p1.fa p1.frs.length p1.fc, .slice p1.da p1.dfs.length p1.dc]).alloc (.cells #[.slice (p2).fa (p2).frs.length (p2).fc, .slice (p2).da (p2).dfs.length (p2).dc] 44)
  have k2 := Blk.new' (w1.alloc (.cells #[.slice (p1).fa (p1).frs.length (p1).fc, .slice (p1).da (p1).dfs.length (p1).dc] 44)) 44 #[.slice p2.fa p2.frs.length p2.fc, .slice p2.da p2.dfs.length p2.dc] (g := w1.heap.size + 1) (by simp)
  have a1 := (oa.all hs).at_
  have a2 := (ob.all hs).at_
  have hB := hb1.trans (hs.mono hb1.size)
  obtain ⟨W, hW⟩ : ∃ W', W' = (w1.alloc (.cells #[.slice (p1).fa (p1).frs.length (p1).fc, .slice (p1).da (p1).dfs.length (p1).dc] 44)).alloc (.cells #[.slice (p2).fa (p2).frs.length (p2).fc, .slice (p2).da (p2).dfs.length (p2).dc] 44) := ⟨_, rfl⟩
  obtain ⟨g2, hg2⟩ : ∃ g, g = w1.heap.size + 1 := ⟨_, rfl⟩
  obtain ⟨g1, hg1⟩ : ∃ g, g = w1.heap.size := ⟨_, rfl⟩
  rw [← hg2] at k2 ⊢
  rw [← hg1] at k1 ⊢
  rw [← hW] at k1 k2 a1 a2 hB ⊢
  clear hW hg1 hg2 hs hb1 oa ob
  have H1 : Hid (joinP p1.er p2.er = (twoL, 0)) := by show _ = _; rw [ea, eb]; exact lk_join
  have EA := Lib.hid ea
  clear ea eb
  ((have q0 := (k1).cell 0; have q1 := (k1).cell 1; have q2 := (k2).cell 0; have q3 := (k2).cell 1); go_wp2_with fail; refine (join_any p1 p2 _ a1 a2).mono ?_; rintro e w1 ⟨p3, rfl, o3, e3, hb1⟩; rw [H1.out] at e3 ⊢; clear q0 q1 q2 q3; go_upto_region 3 with (fail); have hs := hb1.alloc hb1.size (.cells #[.slice (p3).fa (p3).frs.length (p3).fc, .slice (p3).da (p3).dfs.length (p3).dc] 44); have k3 := Blk.new w1 44 #[.slice p3.fa p3.frs.length p3.fc, .slice p3.da p3.dfs.length p3.dc]; have a3 := (o3.alloc (.cells #[.slice (p3).fa (p3).frs.length (p3).fc, .slice (p3).da (p3).dfs.length (p3).dc] 44)).at_; obtain ⟨g3, hg3⟩ : ∃ g, g = w1.heap.size := ⟨_, rfl⟩; obtain ⟨W, hW⟩ : ∃ W', W' = w1.alloc (.cells #[.slice (p3).fa (p3).frs.length (p3).fc, .slice (p3).da (p3).dfs.length (p3).dc] 44) := ⟨_, rfl⟩; rw [← hg3] at k3 ⊢; rw [← hW] at hs k3 a3 ⊢; clear hW hg3 hb1 o3; (have kN := k3; have aN := a3; clear k3 a3; ((try replace a1 := a1.all hs); (try replace a2 := a2.all hs); (try replace a3 := a3.all hs); (try replace a4 := a4.all hs); (try replace a5 := a5.all hs); (try replace a6 := a6.all hs); (try replace a7 := a7.all hs); (try replace a8 := a8.all hs); (try replace a9 := a9.all hs); (try replace k1 := k1.all hs); (try replace k2 := k2.all hs); (try replace k3 := k3.all hs); (try replace k4 := k4.all hs); (try replace k5 := k5.all hs); (try replace k6 := k6.all hs); (try replace k7 := k7.all hs); (try replace k8 := k8.all hs); (try replace k9 := k9.all hs); (try replace r1 := own_all r1 hs); (try replace r2 := own_all r2 hs); (try replace r3 := own_all r3 hs); (try replace r4 := own_all r4 hs); replace hB := hB.trans (hs.mono hB.size)); have k3 := kN; have a3 := aN; clear kN aN hs))
  have E3 := Lib.hid e3
  clear e3
  have q0 := k3.cell 0
  have q1 := k3.cell 1
  go_wp2_with fail
  refine (link_any p3 32 ⟨#[109, 97, 105, 110]⟩ W a3).mono ?_
  rintro e w1 ⟨A, c, segs, Au, cu, rfl, hm, hsa, hfl, _, hs⟩
  rw [E3.out, lk_p] at hm hfl ⊢
  obtain ⟨s1, s2, s3, rfl, he1, he2, he3⟩ := segs3 hm
  have hby := (er_at he1).2.1
  rw [lk_bytes] at hby
  dsimp only at hfl ⊢
  clear q0 q1 hm he1 he2 he3 hfl
  go_upto_region 4 with (fail)
  have hx := hs.alloc hs.size (.cells #[.int .i64 32, .slice A 3 c] 101)
  have kM := Blk.new w1 101 #[.int .i64 32, .slice A 3 c]
  have hx1 : Below w1.heap.size w1 (w1.alloc (.cells #[.int .i64 32, .slice A 3 c] 101)) := by (repeat' (first | exact Below.refl _ _ | assumption | refine Below.setCell ?_ (by first | omega | exact Below.size (by assumption) | (simp; done) | (simp; omega)) _ | refine Below.alloc ?_ (by first | omega | exact Below.size (by assumption) | (simp; done) | (simp; omega)) _ | refine Below.drew ?_ | refine below_drewN ?_ _))
  replace hsa := hsa.below hx1
  obtain ⟨gM, hgM⟩ : ∃ g, g = w1.heap.size := ⟨_, rfl⟩
  obtain ⟨W2, hW2⟩ : ∃ W', W' = w1.alloc (.cells #[.int .i64 32, .slice A 3 c] 101) := ⟨_, rfl⟩
  rw [← hgM] at kM ⊢
  rw [← hW2] at hx kM hsa ⊢
  clear hW2 hgM hx1 hs
  replace k1 := k1.all hx
  replace a1 := a1.all hx
  replace hB := hB.trans (hx.mono hB.size)
  clear hx k2 a2 k3 a3
  have q0 := k1.cell 0
  have q1 := k1.cell 1
  go_wp2_with fail
  refine (link_any p1 32 ⟨#[109, 97, 105, 110]⟩ W2 a1).mono ?_
  rintro e w3 ⟨A', c', segs', Au', cu', rfl, hm', _, hfl', _, hs⟩
  rw [EA.out, la_p] at hm' hfl' ⊢
  obtain rfl := segs0 hm'
  dsimp only at hfl' ⊢
  clear q0 q1 hm'
  replace kM := kM.all hs
  replace hsa := hsa.below hs
  replace hB := hB.trans (hs.mono hB.size)
  clear hs k1 a1
  go_upto_region 5 with (fail)
  have hx1 : Below w3.heap.size w3 (w3.alloc (.cells #[.int .i64 0, .slice A' 0 c'] 101)) := by (repeat' (first | exact Below.refl _ _ | assumption | refine Below.setCell ?_ (by first | omega | exact Below.size (by assumption) | (simp; done) | (simp; omega)) _ | refine Below.alloc ?_ (by first | omega | exact Below.size (by assumption) | (simp; done) | (simp; omega)) _ | refine Below.drew ?_ | refine below_drewN ?_ _))
  obtain ⟨W4, hW4⟩ : ∃ W', W' = w3.alloc (.cells #[.int .i64 0, .slice A' 0 c'] 101) := ⟨_, rfl⟩
  replace hsa := hsa.below hx1
  replace kM := kM.all hx1
  replace hB := hB.trans (hx1.mono hB.size)
  have hF := (hfl'.below hx1).more hx1.size
  rw [← hW4] at hsa kM hB hF ⊢
  clear hW4 hx1 hfl'
  obtain ⟨b, off, rfl, bl, c0, c1, c2, c3, c4⟩ := sg_get (l := [s1, s2, s3]) (i := 0) hsa.row rfl
  have hG := hsa.each s1 (by simp)
  rw [hby] at c1 hG
  simp only [Nat.zero_mul, Nat.add_zero] at c1
  have m0 := kM.cell 0
  have m1 := kM.cell 1
  clear hsa hby c0 c2 c3 c4
  have kN := Blk.new W4 5 #[.int .u8 9, .int .u8 36, .int .u8 0, .int .u8 0, .int .u8 7]
  go_wp2_with (first
    | (go_at_call 32
       refine (bytesEqual_any s1.ba (some ⟨W4.heap.size, 0, none⟩) s1.bc 5 [9, 36, 0, 0, 7] [9, 36, 0, 0, 7] (W4.alloc (.cells #[.int .u8 9, .int .u8 36, .int .u8 0, .int .u8 0, .int .u8 7] 5)) ?hr1 ?hr2).mono ?_
       case hr1 => exact (hG.alloc (Nat.le_refl _) _).more (by simp)
       case hr2 => exact kN.reads rfl
       rintro e w5 ⟨he, rfl⟩
       rw [show (([9, 36, 0, 0, 7] : List UInt8) == [9, 36, 0, 0, 7]) = true from by simp] at he
       subst he)
    | (go_at_call 57
       refine (equalFlxs_any Au' (some ⟨W4.heap.size + 1, 0, none⟩) cu' 1 [⟨7, ⟨#[102]⟩, 0, 0⟩] [⟨7, ⟨#[102]⟩, 0, 0⟩] ((W4.alloc (.cells #[.int .u8 9, .int .u8 36, .int .u8 0, .int .u8 0, .int .u8 7] 5)).alloc (.cells #[.int .i64 7, .string ⟨#[102]⟩, .int .i64 0, .int .i64 0] 118)) ?hr3 ?hr4 (by simp)).mono ?_
       case hr3 => exact (((hF.alloc (Nat.le_refl _) _).more (by simp)).alloc (Nat.le_refl _) _).more (by simp)
       case hr4 => exact (Blk.new' (W4.alloc (.cells #[.int .u8 9, .int .u8 36, .int .u8 0, .int .u8 0, .int .u8 7] 5)) 118 #[.int .i64 7, .string ⟨#[102]⟩, .int .i64 0, .int .i64 0] (g := W4.heap.size + 1) (by simp)).reads rfl
       rintro e w6 ⟨he, hb6⟩
       rw [show (([⟨7, ⟨#[102]⟩, 0, 0⟩] : List Flx) == [⟨7, ⟨#[102]⟩, 0, 0⟩]) = true from by simp] at he
       subst he))
  go_ret
  have hb3 : Below W4.heap.size W4 ((W4.alloc (.cells #[.int .u8 9, .int .u8 36, .int .u8 0, .int .u8 0, .int .u8 7] 5)).alloc (.cells #[.int .i64 7, .string ⟨#[102]⟩, .int .i64 0, .int .i64 0] 118)) := by (repeat' (first | exact Below.refl _ _ | assumption | refine Below.setCell ?_ (by first | omega | exact Below.size (by assumption) | (simp; done) | (simp; omega)) _ | refine Below.alloc ?_ (by first | omega | exact Below.size (by assumption) | (simp; done) | (simp; omega)) _ | refine Below.drew ?_ | refine below_drewN ?_ _))
  exact ⟨rfl, hB.trans ((hb3.trans (hb6.mono hb3.size)).mono hB.size)⟩
end Go.Proofs.Ytbonpilpmjghbaa

/- ropewalklaw.LinkMoved: the call returns true. -/
namespace Go.Proofs.Ytbonpilpmjghbaa
open Go.RowKit

theorem linkP_zero {p : Prt} {base : Int} {entry : ByteArray} (h : (linkP p base entry).2.2 = 0) : linkE p base entry = 0 := by
  by_cases h1 : linkE p base entry = 0
  · exact h1
  · rw [linkP_bad h1] at h
    exact h
theorem linkP_fl {p : Prt} {base : Nat} {entry : ByteArray} (h : linkE p base entry = 0) : (linkP p base entry).2.1 = linkFl p base entry := by
  by_cases h1 : linkFl p base entry = []
  · rw [linkP_ok h h1, h1]
  · rw [linkP_told h h1]
theorem linkP_err {p : Prt} {base : Nat} {entry : ByteArray} (h : linkE p base entry = 0) : (linkP p base entry).2.2 = 0 := by
  by_cases h1 : linkFl p base entry = []
  · rw [linkP_ok h h1]
  · rw [linkP_told h h1]
/-- Two segments, the second one sixteen addresses farther on. -/
structure SgFar (x y : Seg) : Prop where
  at_ : y.At = x.At + 16
  len : y.Bytes.length = x.Bytes.length
  z : y.Zeros = x.Zeros
  wr : y.Writes = x.Writes
  wk : y.Works = x.Works
  a0 : 0 ≤ x.At
  a1 : x.At ≤ 65536
theorem sg_far {p : Prt} {n : Nat} {sects : List Int} {f la : Nat} (h : layE p n = 0) (h' : layE p ((n + 16 : Nat) : Int) = 0) (ht : Trio sects f la) (hx5 : la = 5 → f ≤ 4) {x y : Seg} (hx : x.er = (segP p n f la sects).seg) (hy : y.er = (segP p (n + 16) f la sects).seg) : SgFar x y := by
  obtain ⟨a1, a2, a3, a4, a5⟩ := er_at hx
  obtain ⟨b1, b2, b3, b4, b5⟩ := er_at hy
  obtain ⟨m1, m2, m3, m4, m5⟩ := seg_moved h h' ht
  obtain ⟨o1, o2, o3⟩ := seg_order h ht hx5
  have o4 : (segP p n f la sects).at_ ≤ 65536 := by show secFrom p.frs n f ≤ 65536; omega
  exact ⟨by rw [b1, a1, m1]; omega, by rw [b2, a2, m2], by rw [b3, a3, m3], by rw [b4, a4, m4], by rw [b5, a5, m5], by rw [a1]; omega, by rw [a1]; omega⟩

set_option maxRecDepth 100000 in
set_option maxHeartbeats 20000000 in
theorem linkMoved_any (p : PtM) (base : Int) (entry : ByteArray) (w : World) (h : p.At w w.heap.size) :
    Calls Try.prog 12 #[.agg #[.slice p.fa p.frs.length p.fc, .slice p.da p.dfs.length p.dc], .int .i64 base, .string entry] w fun e w' => e = .returned (.bool true) ∧ Below w.heap.size w w' := by
  have kP := Blk.new w 44 #[.slice p.fa p.frs.length p.fc, .slice p.da p.dfs.length p.dc]
  have hb : Below w.heap.size w (w.alloc (.cells #[.slice (p).fa (p).frs.length (p).fc, .slice (p).da (p).dfs.length (p).dc] 44)) := by (repeat' (first | exact Below.refl _ _ | assumption | refine Below.setCell ?_ (by first | omega | exact Below.size (by assumption) | (simp; done) | (simp; omega)) _ | refine Below.alloc ?_ (by first | omega | exact Below.size (by assumption) | (simp; done) | (simp; omega)) _ | refine Below.drew ?_ | refine below_drewN ?_ _))
  have h1 := h.all hb
  clear h
  go_enter Try.func12, Try.ntmps12
  go_wp2_with fail
  obtain ⟨gP, hgP⟩ : ∃ g, g = w.heap.size := ⟨_, rfl⟩
  obtain ⟨W, hW⟩ : ∃ W, W = w.alloc (.cells #[.slice (p).fa (p).frs.length (p).fc, .slice (p).da (p).dfs.length (p).dc] 44) := ⟨_, rfl⟩
  rw [show Blk (w.alloc (.cells #[.slice (p).fa (p).frs.length (p).fc, .slice (p).da (p).dfs.length (p).dc] 44)) w.heap.size = Blk W gP by rw [hW, hgP]] at kP
  rw [← hgP]
  rw [← hW] at hb h1 ⊢
  clear hW hgP
  refine (link_any p base entry W h1).mono ?_
  rintro e w1 ⟨A, c, segs, Au, cu, rfl, hm, hsa, hfl, _, hb1⟩
  have kP := kP.all hb1
  have h1 := h1.all hb1
  have hb := hb.trans (hb1.mono hb.size)
  clear hb1 hfl
  obtain ⟨⟨⟨en, sg⟩, fl, x⟩, hr⟩ : ∃ t, linkP p.er base entry = t := ⟨_, rfl⟩
  rw [hr] at hm ⊢
  dsimp only at hm ⊢
  have HRR := Lib.hid hr
  clear hr
  go_upto_region 2 with (fail)
  have kM := Blk.new w1 101 #[.int .i64 en, .slice A segs.length c]
  have hbx : Below w1.heap.size w1 (w1.alloc (.cells #[.int .i64 en, .slice A segs.length c] 101)) := by (repeat' (first | exact Below.refl _ _ | assumption | refine Below.setCell ?_ (by first | omega | exact Below.size (by assumption) | (simp; done) | (simp; omega)) _ | refine Below.alloc ?_ (by first | omega | exact Below.size (by assumption) | (simp; done) | (simp; omega)) _ | refine Below.drew ?_ | refine below_drewN ?_ _))
  obtain ⟨gM, hgM⟩ : ∃ g, g = w1.heap.size := ⟨_, rfl⟩
  obtain ⟨W2, hW2⟩ : ∃ W, W = w1.alloc (.cells #[.int .i64 en, .slice A segs.length c] 101) := ⟨_, rfl⟩
  replace hsa := hsa.below hbx
  replace kP := kP.all hbx
  replace h1 := h1.all hbx
  replace hb := hb.trans (hbx.mono hb.size)
  rw [← hgM] at kM ⊢
  rw [← hW2] at kM hsa kP h1 hb ⊢
  clear hW2 hgM hbx
  go_wp2_with fail
  refine (linked_any W2).mono ?_
  rintro e w3 ⟨rfl, hb3⟩
  replace kM := kM.all hb3
  replace hsa := hsa.below hb3
  replace kP := kP.all hb3
  replace h1 := h1.all hb3
  replace hb := hb.trans (hb3.mono hb.size)
  clear hb3
  by_cases hx : x = 0
  · subst hx
    have hE : linkE p.er base entry = 0 := linkP_zero (by rw [HRR.out])
    obtain ⟨hc, hnb, hl0⟩ := linkE_zero hE
    obtain ⟨_, hn0, hn1, _⟩ := layE_zero hl0
    obtain ⟨n, rfl⟩ : ∃ n : Nat, base = n := ⟨base.toNat, by omega⟩
    rcases Nat.eq_zero_or_pos fl.length with hf | hf
    · have hf0 := List.eq_nil_of_length_eq_zero hf
      subst hf0
      have q0 : decide ((0 : Int) < (([] : List Flx).length : Int)) = false := rfl
      by_cases h65 : n ≤ 65504
      · have q1 : decide ((65504 : Int) < (n : Int)) = false := decide_eq_false (by omega)
        have q2 : decide (65504 < n) = false := decide_eq_false (by omega)
        have hflx : linkFl p.er n entry = [] := by rw [← linkP_fl hE, HRR.out]
        have hok := linkP_ok hE hflx
        rw [HRR.out] at hok
        have hen : en = (whereA p.er n entry).1 := by injection hok with h1 _; injection h1
        have hsg : sg = [segP p.er n 1 1 [1], segP p.er n 2 3 [2, 3], segP p.er n 4 5 [4, 5]] := by injection hok with h1 _; injection h1
        have hwh := entry_clean hc hflx
        have hwb := where_bounds hl0 hwh
        rw [← hen] at hwb
        obtain ⟨hwb0, hwb1⟩ := hwb
        have hwm := where_moved hc hwh
        have hmv := linkE_moved hE h65
        rw [hsg] at hm
        obtain ⟨s1, s2, s3, rfl, he1, he2, he3⟩ := segs3 hm
        have HWM := Lib.hid hwm
        have HMV := Lib.hid hmv
        have HEN := Lib.hid hen
        have HE1 := Lib.hid he1
        have HE2 := Lib.hid he2
        have HE3 := Lib.hid he3
        have HL0 := Lib.hid hl0
        have HC := Lib.hid hc
        have p0 := kP.cell 0
        have p1 := kP.cell 1
        clear hok hen hsg hwh hwm hmv hm he1 he2 he3 hl0 hc hE hnb hflx hf HRR
        go_wp2_with fail
        refine (link_any p ((n : Int) + 16) entry w3 h1).mono ?_
        rintro e w4 ⟨A', c', segs', Au', cu', rfl, hm', hsa', hfl', _, hb4⟩
        replace kM := kM.all hb4
        replace hsa := hsa.below hb4
        replace hb := hb.trans (hb4.mono hb.size)
        clear hb4 hfl' kP h1 p0 p1
        obtain ⟨⟨⟨en', sg'⟩, fl', x'⟩, hr'⟩ : ∃ t, linkP p.er ((n : Int) + 16) entry = t := ⟨_, rfl⟩
        rw [hr'] at hm' ⊢
        dsimp only at hm' ⊢
        have HR2 := Lib.hid hr'
        clear hr'
        go_upto_region 5 with (fail)
        have kN := Blk.new w4 101 #[.int .i64 en', .slice A' segs'.length c']
        have hbx : Below w4.heap.size w4 (w4.alloc (.cells #[.int .i64 en', .slice A' segs'.length c'] 101)) := by (repeat' (first | exact Below.refl _ _ | assumption | refine Below.setCell ?_ (by first | omega | exact Below.size (by assumption) | (simp; done) | (simp; omega)) _ | refine Below.alloc ?_ (by first | omega | exact Below.size (by assumption) | (simp; done) | (simp; omega)) _ | refine Below.drew ?_ | refine below_drewN ?_ _))
        obtain ⟨gN, hgN⟩ : ∃ g, g = w4.heap.size := ⟨_, rfl⟩
        obtain ⟨W5, hW5⟩ : ∃ W, W = w4.alloc (.cells #[.int .i64 en', .slice A' segs'.length c'] 101) := ⟨_, rfl⟩
        replace hsa := hsa.below hbx
        replace hsa' := hsa'.below hbx
        replace kM := kM.all hbx
        replace hb := hb.trans (hbx.mono hb.size)
        rw [← hgN] at kN ⊢
        rw [← hW5] at kM kN hsa hsa' hb ⊢
        clear hW5 hgN hbx
        have hcast : ((n : Int) + 16) = ((n + 16 : Nat) : Int) := by omega
        have hR3 := HR2.out
        rw [hcast] at hR3
        by_cases hx' : x' = 0
        · subst hx'
          have hE' : linkE p.er ((n + 16 : Nat) : Int) entry = 0 := linkP_zero (by rw [hR3])
          rcases Nat.eq_zero_or_pos fl'.length with hf' | hf'
          · have hf0 := List.eq_nil_of_length_eq_zero hf'
            subst hf0
            have hflx' : linkFl p.er (n + 16) entry = [] := by rw [← linkP_fl hE', hR3]
            have hok := linkP_ok hE' hflx'
            rw [hR3] at hok
            have hen' : en' = en + 16 := by
              injection hok with h1 _
              injection h1 with h1 _
              rw [h1, HWM.out, HEN.out]
            have hsg' : sg' = [segP p.er (n + 16) 1 1 [1], segP p.er (n + 16) 2 3 [2, 3], segP p.er (n + 16) 4 5 [4, 5]] := by injection hok with h1 _; injection h1
            have hl0' := (linkE_zero hE').2.2
            rw [hsg'] at hm'
            obtain ⟨t1, t2, t3, rfl, ge1, ge2, ge3⟩ := segs3 hm'
            have F1 := sg_far HL0.out hl0' trio_one (by omega) HE1.out ge1
            have F2 := sg_far HL0.out hl0' trio_two (by omega) HE2.out ge2
            have F3 := sg_far HL0.out hl0' trio_three (by omega) HE3.out ge3
            have HF : Hid (∀ (k : Nat) (x y : Seg), ([s1, s2, s3] : List Seg)[k]? = some x → ([t1, t2, t3] : List Seg)[k]? = some y → SgFar x y) := by
              intro k x y hx hy
              match k, hx, hy with
              | 0, hx, hy => simp at hx hy; subst hx hy; exact F1
              | 1, hx, hy => simp at hx hy; subst hx hy; exact F2
              | 2, hx, hy => simp at hx hy; subst hx hy; exact F3
              | k + 3, hx, hy => simp at hx
            obtain ⟨S, hS⟩ : ∃ S, S = [s1, s2, s3] := ⟨_, rfl⟩
            obtain ⟨T, hT⟩ : ∃ T, T = [t1, t2, t3] := ⟨_, rfl⟩
            have hSl : S.length = 3 := by rw [hS]; rfl
            have hTl : T.length = 3 := by rw [hT]; rfl
            rw [← hS] at hsa kM HF
            rw [← hT] at hsa' kN HF
            rw [hen'] at kN
            rw [hSl] at kM
            rw [hTl] at kN
            have hrow := hsa.row
            have hrow' := hsa'.row
            have HSL := Lib.hid hSl
            have HTL := Lib.hid hTl
            have q0' : decide ((0 : Int) < (([] : List Flx).length : Int)) = false := rfl
            have m0 := kM.cell 0
            have m1 := kM.cell 1
            have n0 := kN.cell 0
            have n1 := kN.cell 1
            have hwe : IntKind.i64.wrap (en + 16) = en + 16 := IntWalk.i64_in _ (by omega)
            have HB := Lib.hid hb
            clear hok hen' hsg' hl0' hm' ge1 ge2 ge3 F1 F2 F3 hS hT hSl hTl hflx' hE' hf' hR3 HR2 hsa hsa'
            go_wp2_with fail
            clear m0 m1 n0 n1 hwe hwb0 hwb1 h65 hn0 hn1 q1 q2 hcast
            go_loopw [78] (fun i wr => ∃ k : Nat, k ≤ 3 ∧ i = .int .i64 k ∧ Below W5.heap.size W5 wr) (fun i _ => 3 - (intOf i).toNat)
            case atStart => exact ⟨0, by omega, rfl, Below.refl _ _⟩
            case round =>
              obtain ⟨k, hk, rfl, hbr⟩ := hrel
              by_cases hlt : k < 3
              · obtain ⟨x, hxk⟩ : ∃ x, S[k]? = some x := ⟨_, List.getElem?_eq_getElem (by have := HSL.out; omega)⟩
                obtain ⟨y, hyk⟩ : ∃ y, T[k]? = some y := ⟨_, List.getElem?_eq_getElem (by have := HTL.out; omega)⟩
                have hff := HF.out k x y hxk hyk
                obtain ⟨b, off, rfl, bl, c0, c1, c2, c3, c4⟩ := sg_get (hrow.below hbr) hxk
                obtain ⟨b', off', rfl, bl', d0, d1, d2, d3, d4⟩ := sg_get (hrow'.below hbr) hyk
                rw [hff.at_] at d0
                rw [hff.len] at d1
                rw [hff.z] at d2
                rw [hff.wr] at d3
                rw [hff.wk] at d4
                have xa0 := hff.a0
                have xa1 := hff.a1
                have hwe : IntKind.i64.wrap (x.At + 16) = x.At + 16 := IntWalk.i64_in _ (by omega)
                have n1 := (kN.all hbr).cell 1
                have blr := Nat.lt_of_lt_of_le bl' hbr.size
                clear hxk hyk hff xa0 xa1
                go_upto_region 12 with (fail)
                have kX := Blk.new wr 110 #[.int .i64 (x).At, .slice (x).ba (x).Bytes.length (x).bc, .int .i64 (x).Zeros, .bool (x).Writes, .bool (x).Works]
                have hbx : Below wr.heap.size wr (wr.alloc (.cells #[.int .i64 (x).At, .slice (x).ba (x).Bytes.length (x).bc, .int .i64 (x).Zeros, .bool (x).Writes, .bool (x).Works] 110)) := by (repeat' (first | exact Below.refl _ _ | assumption | refine Below.setCell ?_ (by first | omega | exact Below.size (by assumption) | (simp; done) | (simp; omega)) _ | refine Below.alloc ?_ (by first | omega | exact Below.size (by assumption) | (simp; done) | (simp; omega)) _ | refine Below.drew ?_ | refine below_drewN ?_ _))
                replace hbr := hbr.trans (hbx.mono hbr.size)
                obtain ⟨gX, hgX⟩ : ∃ g, g = wr.heap.size := ⟨_, rfl⟩
                obtain ⟨W6, hW6⟩ : ∃ W, W = wr.alloc (.cells #[.int .i64 (x).At, .slice (x).ba (x).Bytes.length (x).bc, .int .i64 (x).Zeros, .bool (x).Writes, .bool (x).Works] 110) := ⟨_, rfl⟩
                rw [← hgX] at kX ⊢
                rw [← hW6] at kX hbr hbx ⊢
                replace d0 := (hbx.cell (p := ⟨b', off' + k * 5, none⟩) blr).trans d0
                replace d1 := (hbx.cell (p := ⟨b', off' + k * 5 + 1, none⟩) blr).trans d1
                replace d2 := (hbx.cell (p := ⟨b', off' + k * 5 + 2, none⟩) blr).trans d2
                replace d3 := (hbx.cell (p := ⟨b', off' + k * 5 + 3, none⟩) blr).trans d3
                replace d4 := (hbx.cell (p := ⟨b', off' + k * 5 + 4, none⟩) blr).trans d4
                replace n1 := (kN.all hbr).cell 1
                clear hW6 hgX hbx c0 c1 c2 c3 c4
                go_upto_region 13 with (fail)
                have kX := kX.alloc (.cells #[.int .i64 (x.At + 16), .slice y.ba x.Bytes.length y.bc, .int .i64 x.Zeros, .bool x.Writes, .bool x.Works] 110)
                have kY := Blk.new W6 110 #[.int .i64 (x.At + 16), .slice y.ba x.Bytes.length y.bc, .int .i64 x.Zeros, .bool x.Writes, .bool x.Works]
                have hbr := hbr.alloc hbr.size (.cells #[.int .i64 (x.At + 16), .slice y.ba x.Bytes.length y.bc, .int .i64 x.Zeros, .bool x.Writes, .bool x.Works] 110)
                obtain ⟨gY, hgY⟩ : ∃ g, g = W6.heap.size := ⟨_, rfl⟩
                obtain ⟨W7, hW7⟩ : ∃ W, W = W6.alloc (.cells #[.int .i64 (x.At + 16), .slice y.ba x.Bytes.length y.bc, .int .i64 x.Zeros, .bool x.Writes, .bool x.Works] 110) := ⟨_, rfl⟩
                rw [← hgY] at kY ⊢
                rw [← hW7] at kX kY hbr ⊢
                clear hW7 hgY d0 d1 d2 d3 d4 n1
                have t0 := kX.cell 0
                have t1 := kX.cell 1
                have t2 := kX.cell 2
                have t3 := kX.cell 3
                have t4 := kX.cell 4
                have v0 := kY.cell 0
                have v1 := kY.cell 1
                have v2 := kY.cell 2
                have v3 := kY.cell 3
                have v4 := kY.cell 4
                go_wp2_with fail
                go_roundw
                case rel => exact ⟨k + 1, by omega, by go_num, hbr⟩
                case measure => simp [intOf]; omega
              · obtain rfl : k = 3 := by omega
                go_wp2_with fail
                go_ret
                exact ⟨rfl, HB.out.trans (hbr.mono HB.out.size)⟩
          · have q3 : decide ((0 : Int) < (fl'.length : Int)) = true := decide_eq_true (by omega)
            have q4 : decide (0 < fl'.length) = true := decide_eq_true hf'
            clear hf' hE' hR3 HR2 hm'
            go_wp2_with fail
            go_ret
            exact ⟨rfl, hb⟩
        · have hx10 : x' = 10 := by
            rcases HMV.out with h | h
            · have := linkP_err h
              rw [hR3] at this
              exact absurd this hx'
            · have := linkP_bad (p := p.er) (base := ((n + 16 : Nat) : Int)) (entry := entry) (by omega)
              rw [hR3, h] at this
              injection this with _ this
              injection this
          subst hx10
          clear hR3 HR2 hx' hm'
          go_wp2_with fail
          go_ret
          exact ⟨rfl, hb⟩
      · have q1 : decide ((65504 : Int) < (n : Int)) = true := decide_eq_true (by omega)
        have q2 : decide (65504 < n) = true := decide_eq_true (by omega)
        clear h65 hf hm HRR hE hc hnb hl0
        go_wp2_with fail
        refine (linked_any w3).mono ?_
        rintro e w4 ⟨rfl, hb4⟩
        go_wp2
        go_ret
        exact ⟨rfl, hb.trans (hb4.mono hb.size)⟩
    · have q0 : decide ((0 : Int) < (fl.length : Int)) = true := decide_eq_true (by omega)
      have q1 : decide (0 < fl.length) = true := decide_eq_true hf
      clear hf hm HRR hE hc hnb hl0
      go_wp2_with fail
      refine (linked_any w3).mono ?_
      rintro e w4 ⟨rfl, hb4⟩
      go_wp2
      go_ret
      exact ⟨rfl, hb.trans (hb4.mono hb.size)⟩
  · have hx0 : (x != 0) = true := by simpa using hx
    clear hx hm HRR
    go_wp2_with fail
    refine (linked_any w3).mono ?_
    rintro e w4 ⟨rfl, hb4⟩
    go_wp2
    go_ret
    exact ⟨rfl, hb.trans (hb4.mono hb.size)⟩
end Go.Proofs.Ytbonpilpmjghbaa

/- ropewalklaw.LinkOrder: the call returns true. -/
namespace Go.Proofs.Ytbonpilpmjghbaa
open Go.RowKit

theorem order_two {a b c : Prt} (hx : (joinP a b).2 = 0) (hy : (joinP b c).2 = 0) : joinP a b = (joinU a b, 0) ∧ joinP b c = (joinU b c, 0) ∧ joinP (joinU a b) c = joinP a (joinU b c) := by
  obtain ⟨oa, ob, fx, ex⟩ := joinP_zero hx
  obtain ⟨_, oc, fy, ey⟩ := joinP_zero hy
  have ox := ok_join oa ob fx
  have oy := ok_join ob oc fy
  have hAs := join_assoc (a := a) ob.right oc.right
  refine ⟨ex, ey, ?_⟩
  by_cases hf : (joinU (joinU a b) c).fits
  · rw [joinP_ok ox oc hf]
    rw [hAs] at hf ⊢
    rw [joinP_ok oa oy hf]
  · rw [joinP_full ox oc hf]
    rw [hAs] at hf
    rw [joinP_full oa oy hf]

set_option maxRecDepth 100000 in
set_option maxHeartbeats 20000000 in
theorem linkOrder_any (p1 p2 p3 : PtM) (base : Int) (entry : ByteArray) (w : World) (a1 : p1.At w w.heap.size) (a2 : p2.At w w.heap.size) (a3 : p3.At w w.heap.size) :
    Calls Try.prog 13 #[.agg #[.slice p1.fa p1.frs.length p1.fc, .slice p1.da p1.dfs.length p1.dc], .agg #[.slice p2.fa p2.frs.length p2.fc, .slice p2.da p2.dfs.length p2.dc], .agg #[.slice p3.fa p3.frs.length p3.fc, .slice p3.da p3.dfs.length p3.dc], .int .i64 base, .string entry] w
      fun e w' => e = .returned (.bool true) ∧ Below w.heap.size w w' := by
  go_enter Try.func13, Try.ntmps13
  go_upto_region 1 with (fail)
  have k1 := ((Blk.new w 44 #[.slice p1.fa p1.frs.length p1.fc, .slice p1.da p1.dfs.length p1.dc]).alloc (.cells #[.slice (p2).fa (p2).frs.length (p2).fc, .slice (p2).da (p2).dfs.length (p2).dc] 44)).alloc (.cells #[.slice (p3).fa (p3).frs.length (p3).fc, .slice (p3).da (p3).dfs.length (p3).dc] 44)
  have k2 := (Blk.new' (w.alloc (.cells #[.slice (p1).fa (p1).frs.length (p1).fc, .slice (p1).da (p1).dfs.length (p1).dc] 44)) 44 #[.slice p2.fa p2.frs.length p2.fc, .slice p2.da p2.dfs.length p2.dc] (g := w.heap.size + 1) (by simp)).alloc (.cells #[.slice (p3).fa (p3).frs.length (p3).fc, .slice (p3).da (p3).dfs.length (p3).dc] 44)
  have k3 := Blk.new' ((w.alloc (.cells #[.slice (p1).fa (p1).frs.length (p1).fc, .slice (p1).da (p1).dfs.length (p1).dc] 44)).alloc (.cells #[.slice (p2).fa (p2).frs.length (p2).fc, .slice (p2).da (p2).dfs.length (p2).dc] 44)) 44 #[.slice p3.fa p3.frs.length p3.fc, .slice p3.da p3.dfs.length p3.dc] (g := w.heap.size + 1 + 1) (by simp)
  have hB : Below w.heap.size w (((w.alloc (.cells #[.slice (p1).fa (p1).frs.length (p1).fc, .slice (p1).da (p1).dfs.length (p1).dc] 44)).alloc (.cells #[.slice (p2).fa (p2).frs.length (p2).fc, .slice (p2).da (p2).dfs.length (p2).dc] 44)).alloc (.cells #[.slice (p3).fa (p3).frs.length (p3).fc, .slice (p3).da (p3).dfs.length (p3).dc] 44)) := by (repeat' (first | exact Below.refl _ _ | assumption | refine Below.setCell ?_ (by first | omega | exact Below.size (by assumption) | (simp; done) | (simp; omega)) _ | refine Below.alloc ?_ (by first | omega | exact Below.size (by assumption) | (simp; done) | (simp; omega)) _ | refine Below.drew ?_ | refine below_drewN ?_ _))
  replace a1 := a1.all hB
  replace a2 := a2.all hB
  replace a3 := a3.all hB
  obtain ⟨W, hW⟩ : ∃ W', W' = ((w.alloc (.cells #[.slice (p1).fa (p1).frs.length (p1).fc, .slice (p1).da (p1).dfs.length (p1).dc] 44)).alloc (.cells #[.slice (p2).fa (p2).frs.length (p2).fc, .slice (p2).da (p2).dfs.length (p2).dc] 44)).alloc (.cells #[.slice (p3).fa (p3).frs.length (p3).fc, .slice (p3).da (p3).dfs.length (p3).dc] 44) := ⟨_, rfl⟩
  obtain ⟨g3, hg3⟩ : ∃ g, g = w.heap.size + 1 + 1 := ⟨_, rfl⟩
  obtain ⟨g2, hg2⟩ : ∃ g, g = w.heap.size + 1 := ⟨_, rfl⟩
  rw [← hg3] at k3 ⊢
  rw [← hg2] at k2 ⊢
  rw [← hW] at k1 k2 k3 a1 a2 a3 hB ⊢
  clear hW hg2 hg3
  obtain ⟨⟨x1, n1⟩, H1⟩ : ∃ t, joinP p1.er p2.er = t := ⟨_, rfl⟩
  obtain ⟨⟨x2, n2⟩, H2⟩ : ∃ t, joinP p2.er p3.er = t := ⟨_, rfl⟩
  replace H1 := Lib.hid H1
  replace H2 := Lib.hid H2
  ((have q0 := (k1).cell 0; have q1 := (k1).cell 1; have q2 := (k2).cell 0; have q3 := (k2).cell 1); go_wp2_with fail; refine (join_any p1 p2 _ a1 a2).mono ?_; rintro e w1 ⟨p4, rfl, o4, e4, hb1⟩; rw [H1.out] at e4 ⊢; clear q0 q1 q2 q3; go_upto_region 2 with (fail); have hs := hb1.alloc hb1.size (.cells #[.slice (p4).fa (p4).frs.length (p4).fc, .slice (p4).da (p4).dfs.length (p4).dc] 44); have k4 := Blk.new w1 44 #[.slice p4.fa p4.frs.length p4.fc, .slice p4.da p4.dfs.length p4.dc]; have a4 := (o4.alloc (.cells #[.slice (p4).fa (p4).frs.length (p4).fc, .slice (p4).da (p4).dfs.length (p4).dc] 44)).at_; obtain ⟨g4, hg4⟩ : ∃ g, g = w1.heap.size := ⟨_, rfl⟩; obtain ⟨W, hW⟩ : ∃ W', W' = w1.alloc (.cells #[.slice (p4).fa (p4).frs.length (p4).fc, .slice (p4).da (p4).dfs.length (p4).dc] 44) := ⟨_, rfl⟩; rw [← hg4] at k4 ⊢; rw [← hW] at hs k4 a4 ⊢; clear hW hg4 hb1 o4; (have kN := k4; have aN := a4; clear k4 a4; ((try replace a1 := a1.all hs); (try replace a2 := a2.all hs); (try replace a3 := a3.all hs); (try replace a4 := a4.all hs); (try replace a5 := a5.all hs); (try replace a6 := a6.all hs); (try replace a7 := a7.all hs); (try replace a8 := a8.all hs); (try replace a9 := a9.all hs); (try replace k1 := k1.all hs); (try replace k2 := k2.all hs); (try replace k3 := k3.all hs); (try replace k4 := k4.all hs); (try replace k5 := k5.all hs); (try replace k6 := k6.all hs); (try replace k7 := k7.all hs); (try replace k8 := k8.all hs); (try replace k9 := k9.all hs); (try replace r1 := own_all r1 hs); (try replace r2 := own_all r2 hs); (try replace r3 := own_all r3 hs); (try replace r4 := own_all r4 hs); replace hB := hB.trans (hs.mono hB.size)); have k4 := kN; have a4 := aN; clear kN aN hs))
  ((have q0 := (k2).cell 0; have q1 := (k2).cell 1; have q2 := (k3).cell 0; have q3 := (k3).cell 1); go_wp2_with fail; refine (join_any p2 p3 _ a2 a3).mono ?_; rintro e w1 ⟨p5, rfl, o5, e5, hb1⟩; rw [H2.out] at e5 ⊢; clear q0 q1 q2 q3; go_upto_region 3 with (fail); have hs := hb1.alloc hb1.size (.cells #[.slice (p5).fa (p5).frs.length (p5).fc, .slice (p5).da (p5).dfs.length (p5).dc] 44); have k5 := Blk.new w1 44 #[.slice p5.fa p5.frs.length p5.fc, .slice p5.da p5.dfs.length p5.dc]; have a5 := (o5.alloc (.cells #[.slice (p5).fa (p5).frs.length (p5).fc, .slice (p5).da (p5).dfs.length (p5).dc] 44)).at_; obtain ⟨g5, hg5⟩ : ∃ g, g = w1.heap.size := ⟨_, rfl⟩; obtain ⟨W, hW⟩ : ∃ W', W' = w1.alloc (.cells #[.slice (p5).fa (p5).frs.length (p5).fc, .slice (p5).da (p5).dfs.length (p5).dc] 44) := ⟨_, rfl⟩; rw [← hg5] at k5 ⊢; rw [← hW] at hs k5 a5 ⊢; clear hW hg5 hb1 o5; (have kN := k5; have aN := a5; clear k5 a5; ((try replace a1 := a1.all hs); (try replace a2 := a2.all hs); (try replace a3 := a3.all hs); (try replace a4 := a4.all hs); (try replace a5 := a5.all hs); (try replace a6 := a6.all hs); (try replace a7 := a7.all hs); (try replace a8 := a8.all hs); (try replace a9 := a9.all hs); (try replace k1 := k1.all hs); (try replace k2 := k2.all hs); (try replace k3 := k3.all hs); (try replace k4 := k4.all hs); (try replace k5 := k5.all hs); (try replace k6 := k6.all hs); (try replace k7 := k7.all hs); (try replace k8 := k8.all hs); (try replace k9 := k9.all hs); (try replace r1 := own_all r1 hs); (try replace r2 := own_all r2 hs); (try replace r3 := own_all r3 hs); (try replace r4 := own_all r4 hs); replace hB := hB.trans (hs.mono hB.size)); have k5 := kN; have a5 := aN; clear kN aN hs))
  replace e4 := Lib.hid e4
  replace e5 := Lib.hid e5
  go_wp2_with fail
  refine (linked_any W).mono ?_
  rintro e w1 ⟨rfl, hs⟩
  ((try replace a1 := a1.all hs); (try replace a2 := a2.all hs); (try replace a3 := a3.all hs); (try replace a4 := a4.all hs); (try replace a5 := a5.all hs); (try replace a6 := a6.all hs); (try replace a7 := a7.all hs); (try replace a8 := a8.all hs); (try replace a9 := a9.all hs); (try replace k1 := k1.all hs); (try replace k2 := k2.all hs); (try replace k3 := k3.all hs); (try replace k4 := k4.all hs); (try replace k5 := k5.all hs); (try replace k6 := k6.all hs); (try replace k7 := k7.all hs); (try replace k8 := k8.all hs); (try replace k9 := k9.all hs); (try replace r1 := own_all r1 hs); (try replace r2 := own_all r2 hs); (try replace r3 := own_all r3 hs); (try replace r4 := own_all r4 hs); replace hB := hB.trans (hs.mono hB.size))
  clear hs
  by_cases hn1 : n1 = 0
  · subst hn1
    by_cases hn2 : n2 = 0
    · subst hn2
      obtain ⟨o1, o2, o3⟩ := order_two (a := p1.er) (b := p2.er) (c := p3.er) (by rw [H1.out]) (by rw [H2.out])
      have j1 : x1 = joinU p1.er p2.er := by have := o1.symm.trans H1.out; injection this with h _; exact h.symm
      have j2 : x2 = joinU p2.er p3.er := by have := o2.symm.trans H2.out; injection this with h _; exact h.symm
      obtain ⟨⟨x3, n3⟩, H3⟩ : ∃ t, joinP p4.er p3.er = t := ⟨_, rfl⟩
      have H4 : Hid (joinP p1.er p5.er = (x3, n3)) := by
        show _ = _
        rw [← H3, e4.out, e5.out, j1, j2, o3]
      replace H3 := Lib.hid H3
      clear o1 o2 o3 j1 j2
      ((have q0 := (k4).cell 0; have q1 := (k4).cell 1; have q2 := (k3).cell 0; have q3 := (k3).cell 1); go_wp2_with fail; refine (join_any p4 p3 _ a4 a3).mono ?_; rintro e w1 ⟨p6, rfl, o6, e6, hb1⟩; rw [H3.out] at e6 ⊢; clear q0 q1 q2 q3; go_upto_region 6 with (fail); have hs := hb1.alloc hb1.size (.cells #[.slice (p6).fa (p6).frs.length (p6).fc, .slice (p6).da (p6).dfs.length (p6).dc] 44); have k6 := Blk.new w1 44 #[.slice p6.fa p6.frs.length p6.fc, .slice p6.da p6.dfs.length p6.dc]; have a6 := (o6.alloc (.cells #[.slice (p6).fa (p6).frs.length (p6).fc, .slice (p6).da (p6).dfs.length (p6).dc] 44)).at_; obtain ⟨g6, hg6⟩ : ∃ g, g = w1.heap.size := ⟨_, rfl⟩; obtain ⟨W, hW⟩ : ∃ W', W' = w1.alloc (.cells #[.slice (p6).fa (p6).frs.length (p6).fc, .slice (p6).da (p6).dfs.length (p6).dc] 44) := ⟨_, rfl⟩; rw [← hg6] at k6 ⊢; rw [← hW] at hs k6 a6 ⊢; clear hW hg6 hb1 o6; (have kN := k6; have aN := a6; clear k6 a6; ((try replace a1 := a1.all hs); (try replace a2 := a2.all hs); (try replace a3 := a3.all hs); (try replace a4 := a4.all hs); (try replace a5 := a5.all hs); (try replace a6 := a6.all hs); (try replace a7 := a7.all hs); (try replace a8 := a8.all hs); (try replace a9 := a9.all hs); (try replace k1 := k1.all hs); (try replace k2 := k2.all hs); (try replace k3 := k3.all hs); (try replace k4 := k4.all hs); (try replace k5 := k5.all hs); (try replace k6 := k6.all hs); (try replace k7 := k7.all hs); (try replace k8 := k8.all hs); (try replace k9 := k9.all hs); (try replace r1 := own_all r1 hs); (try replace r2 := own_all r2 hs); (try replace r3 := own_all r3 hs); (try replace r4 := own_all r4 hs); replace hB := hB.trans (hs.mono hB.size)); have k6 := kN; have a6 := aN; clear kN aN hs))
      ((have q0 := (k1).cell 0; have q1 := (k1).cell 1; have q2 := (k5).cell 0; have q3 := (k5).cell 1); go_wp2_with fail; refine (join_any p1 p5 _ a1 a5).mono ?_; rintro e w1 ⟨p7, rfl, o7, e7, hb1⟩; rw [H4.out] at e7 ⊢; clear q0 q1 q2 q3; go_upto_region 7 with (fail); have hs := hb1.alloc hb1.size (.cells #[.slice (p7).fa (p7).frs.length (p7).fc, .slice (p7).da (p7).dfs.length (p7).dc] 44); have k7 := Blk.new w1 44 #[.slice p7.fa p7.frs.length p7.fc, .slice p7.da p7.dfs.length p7.dc]; have a7 := (o7.alloc (.cells #[.slice (p7).fa (p7).frs.length (p7).fc, .slice (p7).da (p7).dfs.length (p7).dc] 44)).at_; obtain ⟨g7, hg7⟩ : ∃ g, g = w1.heap.size := ⟨_, rfl⟩; obtain ⟨W, hW⟩ : ∃ W', W' = w1.alloc (.cells #[.slice (p7).fa (p7).frs.length (p7).fc, .slice (p7).da (p7).dfs.length (p7).dc] 44) := ⟨_, rfl⟩; rw [← hg7] at k7 ⊢; rw [← hW] at hs k7 a7 ⊢; clear hW hg7 hb1 o7; (have kN := k7; have aN := a7; clear k7 a7; ((try replace a1 := a1.all hs); (try replace a2 := a2.all hs); (try replace a3 := a3.all hs); (try replace a4 := a4.all hs); (try replace a5 := a5.all hs); (try replace a6 := a6.all hs); (try replace a7 := a7.all hs); (try replace a8 := a8.all hs); (try replace a9 := a9.all hs); (try replace k1 := k1.all hs); (try replace k2 := k2.all hs); (try replace k3 := k3.all hs); (try replace k4 := k4.all hs); (try replace k5 := k5.all hs); (try replace k6 := k6.all hs); (try replace k7 := k7.all hs); (try replace k8 := k8.all hs); (try replace k9 := k9.all hs); (try replace r1 := own_all r1 hs); (try replace r2 := own_all r2 hs); (try replace r3 := own_all r3 hs); (try replace r4 := own_all r4 hs); replace hB := hB.trans (hs.mono hB.size)); have k7 := kN; have a7 := aN; clear kN aN hs))
      replace e6 := Lib.hid e6
      replace e7 := Lib.hid e7
      clear a1 a2 a3 a4 a5 k1 k2 k3 k4 k5
      by_cases hn3 : n3 = 0
      · subst hn3
        have q0 := k6.cell 0
        have q1 := k6.cell 1
        go_wp2_with fail
        refine (link_any p6 base entry W a6).mono ?_
        rintro e w1 ⟨A, c, segs, Au, cu, rfl, hm, hsa, hfl, _, hs⟩
        rw [e6.out] at hm hfl ⊢
        obtain ⟨⟨⟨en, sg⟩, fl, x⟩, hr⟩ : ∃ t, linkP x3 base entry = t := ⟨_, rfl⟩
        rw [hr] at hm hfl ⊢
        have HR := Lib.hid hr
        dsimp only at hm hfl ⊢
        clear hr q0 q1
        go_upto_region 10 with (fail)
        have kM := Blk.new w1 101 #[.int .i64 en, .slice A segs.length c]
        have hx := hs.alloc hs.size (.cells #[.int .i64 en, .slice A segs.length c] 101)
        have hx1 : Below w1.heap.size w1 (w1.alloc (.cells #[.int .i64 en, .slice A segs.length c] 101)) := by (repeat' (first | exact Below.refl _ _ | assumption | refine Below.setCell ?_ (by first | omega | exact Below.size (by assumption) | (simp; done) | (simp; omega)) _ | refine Below.alloc ?_ (by first | omega | exact Below.size (by assumption) | (simp; done) | (simp; omega)) _ | refine Below.drew ?_ | refine below_drewN ?_ _))
        replace hsa := hsa.below hx1
        replace hfl := (hfl.below hx1).more hx1.size
        obtain ⟨gM, hgM⟩ : ∃ g, g = w1.heap.size := ⟨_, rfl⟩
        obtain ⟨W2, hW2⟩ : ∃ W', W' = w1.alloc (.cells #[.int .i64 en, .slice A segs.length c] 101) := ⟨_, rfl⟩
        rw [← hgM] at kM ⊢
        rw [← hW2] at hx kM hsa hfl ⊢
        clear hW2 hgM hx1 hs
        replace k7 := k7.all hx
        replace a7 := a7.all hx
        replace hB := hB.trans (hx.mono hB.size)
        clear hx k6 a6
        have q0 := k7.cell 0
        have q1 := k7.cell 1
        go_wp2_with fail
        refine (link_any p7 base entry W2 a7).mono ?_
        rintro e w3 ⟨A', c', segs', Au', cu', rfl, hm', hsa', hfl', _, hs⟩
        rw [e7.out, HR.out] at hm' hfl' ⊢
        dsimp only at hm' hfl' ⊢
        clear q0 q1
        replace kM := kM.all hs
        replace hsa := hsa.below hs
        replace hfl := (hfl.below hs).more hs.size
        replace hB := hB.trans (hs.mono hB.size)
        clear hs k7 a7
        have HSE := Lib.hid (sgsEq_er (hm.trans hm'.symm))
        go_upto_region 11 with (fail)
        have hx1 : Below w3.heap.size w3 (w3.alloc (.cells #[.int .i64 en, .slice A' segs'.length c'] 101)) := by (repeat' (first | exact Below.refl _ _ | assumption | refine Below.setCell ?_ (by first | omega | exact Below.size (by assumption) | (simp; done) | (simp; omega)) _ | refine Below.alloc ?_ (by first | omega | exact Below.size (by assumption) | (simp; done) | (simp; omega)) _ | refine Below.drew ?_ | refine below_drewN ?_ _))
        have kN := Blk.new w3 101 #[.int .i64 en, .slice A' segs'.length c']
        replace hsa := hsa.below hx1
        replace hsa' := hsa'.below hx1
        replace hfl := (hfl.below hx1).more hx1.size
        replace hfl' := (hfl'.below hx1).more hx1.size
        replace kM := kM.all hx1
        replace hB := hB.trans (hx1.mono hB.size)
        obtain ⟨gN, hgN⟩ : ∃ g, g = w3.heap.size := ⟨_, rfl⟩
        obtain ⟨W4, hW4⟩ : ∃ W', W' = w3.alloc (.cells #[.int .i64 en, .slice A' segs'.length c'] 101) := ⟨_, rfl⟩
        rw [← hgN] at kN ⊢
        rw [← hW4] at hsa hsa' hfl hfl' kM kN hB ⊢
        clear hW4 hgN hx1 hm hm'
        have m0 := kM.cell 0
        have m1 := kM.cell 1
        have n0 := kN.cell 0
        have n1 := kN.cell 1
        have qx : (x == x) = true := by simp
        have HSM := Lib.hid (linkSame_any en en A A' c c' segs segs' W4 hsa hsa')
        have HFM := Lib.hid (fun W (hW : Below W4.heap.size W4 W) => equalFlxs_any Au Au' cu cu' fl fl W ((hfl.below hW).more hW.size) ((hfl'.below hW).more hW.size))
        have hbig : fl.length ≤ 9223372036854775807 := by
          have := linkP_len p6 base entry
          rw [e6.out, HR.out] at this
          simp only at this
          omega
        go_wp2_with (first
          | (go_at_call 60; refine HSM.out.mono ?_; rintro e w5 ⟨he, hb5⟩; rw [HSE.out, decide_eq_true rfl] at he; subst he)
          | (go_at_call 57; refine (HFM.out _ hb5 hbig).mono ?_; rintro e w6 ⟨he, hb6⟩; rw [show (fl == fl) = true from by simp] at he; subst he))
        go_ret
        exact ⟨rfl, hB.trans ((hb5.trans (hb6.mono hb5.size)).mono hB.size)⟩
      · have q3 : (n3 != 0) = true := by simpa using hn3
        have q4 : (n3 == n3) = true := by simp
        clear hn3
        go_wp2_with fail
        go_ret
        exact ⟨rfl, hB⟩
    · have q3 : (n2 != 0) = true := by simpa using hn2
      clear hn2
      go_wp2_with fail
      refine (linked_any w1).mono ?_
      rintro e w2 ⟨rfl, hs⟩
      go_wp2
      go_ret
      exact ⟨rfl, hB.trans (hs.mono hB.size)⟩
  · have q3 : (n1 != 0) = true := by simpa using hn1
    clear hn1
    go_wp2_with fail
    refine (linked_any w1).mono ?_
    rintro e w2 ⟨rfl, hs⟩
    go_wp2
    go_ret
    exact ⟨rfl, hB.trans (hs.mono hB.size)⟩
end Go.Proofs.Ytbonpilpmjghbaa
