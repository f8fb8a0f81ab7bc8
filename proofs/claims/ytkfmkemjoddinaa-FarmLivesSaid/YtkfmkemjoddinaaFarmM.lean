/- farm.Do: what it computes. -/
import Derived.Test.YtkfmkemjoddinaaFarmN
import Derived.Test.YtkfmkemjoddinaaFarmK
set_option linter.all false
namespace Go.Proofs.Ytkfmkemjoddinaa
open Go.RowKit
set_option maxRecDepth 100000

def FrM.nil : FrM := ⟨[], [], 0, [], [], [], [], [], none, 0, none, 0, none, 0, none, 0, none, 0, none, 0, none, 0⟩
theorem nilF_own (w : World) (B : Nat) : FrM.nil.Own w B :=
  ⟨World.ownsRow_nil _ _ _ _, fun x hx => absurd hx (by simp [FrM.nil]), World.ownsRow_nil _ _ _ _, World.ownsRow_nil _ _ _ _, World.ownsRow_nil _ _ _ _, fun x hx => absurd hx (by simp [FrM.nil]), World.ownsRow_nil _ _ _ _, World.ownsRow_nil _ _ _ _, World.ownsRow_nil _ _ _ _, fun x hx => absurd hx (by simp [FrM.nil]), .inl rfl⟩
theorem Blk.putz8 {w : World} {g : Nat} {t : TypeId} {a0 a1 a2 a3 a4 a5 a6 a7 : Value} (hb : Blk w g t #[a0, a1, a2, a3, a4, a5, a6, a7]) : Blk ((((((((w.setCell ⟨g, 0, none⟩ (.slice none 0 0)).setCell ⟨g, 1, none⟩ (.slice none 0 0)).setCell ⟨g, 2, none⟩ (.int .i64 0)).setCell ⟨g, 3, none⟩ (.slice none 0 0)).setCell ⟨g, 4, none⟩ (.slice none 0 0)).setCell ⟨g, 5, none⟩ (.slice none 0 0)).setCell ⟨g, 6, none⟩ (.slice none 0 0)).setCell ⟨g, 7, none⟩ (.slice none 0 0)) g t #[.slice none 0 0, .slice none 0 0, .int .i64 0, .slice none 0 0, .slice none 0 0, .slice none 0 0, .slice none 0 0, .slice none 0 0] := hb.put8 FrM.nil
theorem below_putz8 {a w : World} {B g : Nat} (h : Below B a w) (hg : B ≤ g) : Below B a ((((((((w.setCell ⟨g, 0, none⟩ (.slice none 0 0)).setCell ⟨g, 1, none⟩ (.slice none 0 0)).setCell ⟨g, 2, none⟩ (.int .i64 0)).setCell ⟨g, 3, none⟩ (.slice none 0 0)).setCell ⟨g, 4, none⟩ (.slice none 0 0)).setCell ⟨g, 5, none⟩ (.slice none 0 0)).setCell ⟨g, 6, none⟩ (.slice none 0 0)).setCell ⟨g, 7, none⟩ (.slice none 0 0)) := below_put8 h hg FrM.nil
theorem Blk.far8 {w : World} {g g' : Nat} {t : TypeId} {cs : Array Value} (hb : Blk w g t cs) (hne : g ≠ g') (f : FrM) : Blk ((((((((w.setCell ⟨g', 0, none⟩ (.slice f.pa f.ps.length f.pc)).setCell ⟨g', 1, none⟩ (.slice f.la f.pl.length f.lc)).setCell ⟨g', 2, none⟩ (.int .i64 f.now)).setCell ⟨g', 3, none⟩ (.slice f.da f.dn.length f.dc)).setCell ⟨g', 4, none⟩ (.slice f.ha f.hv.length f.hc)).setCell ⟨g', 5, none⟩ (.slice f.ga f.gs.length f.gc)).setCell ⟨g', 6, none⟩ (.slice f.wa f.wk.length f.wc)).setCell ⟨g', 7, none⟩ (.slice f.na f.nt.length f.nc)) g t cs :=
  (((((((hb.far (p := ⟨g', 0, none⟩) hne _).far (p := ⟨g', 1, none⟩) hne _).far (p := ⟨g', 2, none⟩) hne _).far (p := ⟨g', 3, none⟩) hne _).far (p := ⟨g', 4, none⟩) hne _).far (p := ⟨g', 5, none⟩) hne _).far (p := ⟨g', 6, none⟩) hne _).far (p := ⟨g', 7, none⟩) hne _
def DoIs (w : World) (r : Frm × Int) (e : Ending) (w' : World) : Prop := ∃ f' : FrM, e = .returned (.tuple #[.agg #[.slice f'.pa f'.ps.length f'.pc, .slice f'.la f'.pl.length f'.lc, .int .i64 f'.now, .slice f'.da f'.dn.length f'.dc, .slice f'.ha f'.hv.length f'.hc, .slice f'.ga f'.gs.length f'.gc, .slice f'.wa f'.wk.length f'.wc, .slice f'.na f'.nt.length f'.nc], .int .i64 r.2]) ∧ f'.Own w' w.heap.size ∧ f'.er = r.1 ∧ Below w.heap.size w w'
theorem doP_bad {f : Frm} {x : Hap} (h : ckFarm f ≠ 0) : doP f x = (.nil, ckFarm f) := if_pos h
theorem doP_fail {f : Frm} {x : Hap} (h : ckFarm f = 0) (h2 : (stepP f x).2 ≠ 0) : doP f x = (.nil, (stepP f x).2) := by unfold doP; rw [if_neg (fun hn => hn h), if_pos h2]
theorem doP_ok {f : Frm} {x : Hap} (h : ckFarm f = 0) (h2 : (stepP f x).2 = 0) : doP f x = ((stepP f x).1, 0) := by unfold doP; rw [if_neg (fun hn => hn h), if_neg (fun hn => hn h2)]
set_option maxHeartbeats 20000000 in
theorem do_any (f : FrM) (x : Hap) (w : World) (h : f.At w w.heap.size) :
    Calls Try.prog 7 #[.agg #[.slice f.pa f.ps.length f.pc, .slice f.la f.pl.length f.lc, .int .i64 f.now, .slice f.da f.dn.length f.dc, .slice f.ha f.hv.length f.hc, .slice f.ga f.gs.length f.gc, .slice f.wa f.wk.length f.wc, .slice f.na f.nt.length f.nc], .agg #[.int .i64 x.kind, .int .i64 x.worker, .int .i64 x.k]] w (DoIs w (doP f.er x)) := by
  unfold DoIs
  obtain ⟨W0, hW0⟩ : ∃ y, y = w.alloc (.cells #[.slice f.pa f.ps.length f.pc, .slice f.la f.pl.length f.lc, .int .i64 f.now, .slice f.da f.dn.length f.dc, .slice f.ha f.hv.length f.hc, .slice f.ga f.gs.length f.gc, .slice f.wa f.wk.length f.wc, .slice f.na f.nt.length f.nc] 29) := ⟨_, rfl⟩
  have kF := ((Blk.new w 29 #[.slice f.pa f.ps.length f.pc, .slice f.la f.pl.length f.lc, .int .i64 f.now, .slice f.da f.dn.length f.dc, .slice f.ha f.hv.length f.hc, .slice f.ga f.gs.length f.gc, .slice f.wa f.wk.length f.wc, .slice f.na f.nt.length f.nc]).alloc (.cells #[.int .i64 x.kind, .int .i64 x.worker, .int .i64 x.k] 31)).alloc (.cells #[.slice none 0 0, .slice none 0 0, .int .i64 0, .slice none 0 0, .slice none 0 0, .slice none 0 0, .slice none 0 0, .slice none 0 0] 29)
  have kX := (Blk.new' (w.alloc (.cells #[.slice f.pa f.ps.length f.pc, .slice f.la f.pl.length f.lc, .int .i64 f.now, .slice f.da f.dn.length f.dc, .slice f.ha f.hv.length f.hc, .slice f.ga f.gs.length f.gc, .slice f.wa f.wk.length f.wc, .slice f.na f.nt.length f.nc] 29)) 31 #[.int .i64 x.kind, .int .i64 x.worker, .int .i64 x.k] (g := w.heap.size + 1) (by simp)).alloc (.cells #[.slice none 0 0, .slice none 0 0, .int .i64 0, .slice none 0 0, .slice none 0 0, .slice none 0 0, .slice none 0 0, .slice none 0 0] 29)
  have kR := Blk.new' ((w.alloc (.cells #[.slice f.pa f.ps.length f.pc, .slice f.la f.pl.length f.lc, .int .i64 f.now, .slice f.da f.dn.length f.dc, .slice f.ha f.hv.length f.hc, .slice f.ga f.gs.length f.gc, .slice f.wa f.wk.length f.wc, .slice f.na f.nt.length f.nc] 29)).alloc (.cells #[.int .i64 x.kind, .int .i64 x.worker, .int .i64 x.k] 31)) 29 #[.slice none 0 0, .slice none 0 0, .int .i64 0, .slice none 0 0, .slice none 0 0, .slice none 0 0, .slice none 0 0, .slice none 0 0] (g := w.heap.size + 1 + 1) (by simp)
  have hB : Below w.heap.size w (((w.alloc (.cells #[.slice f.pa f.ps.length f.pc, .slice f.la f.pl.length f.lc, .int .i64 f.now, .slice f.da f.dn.length f.dc, .slice f.ha f.hv.length f.hc, .slice f.ga f.gs.length f.gc, .slice f.wa f.wk.length f.wc, .slice f.na f.nt.length f.nc] 29)).alloc (.cells #[.int .i64 x.kind, .int .i64 x.worker, .int .i64 x.k] 31)).alloc (.cells #[.slice none 0 0, .slice none 0 0, .int .i64 0, .slice none 0 0, .slice none 0 0, .slice none 0 0, .slice none 0 0, .slice none 0 0] 29)) := by (repeat' (first | exact Below.refl _ _ | assumption | refine Below.setCell ?_ (by first | omega | exact Below.size (by assumption) | (simp; done) | (simp; omega)) _ | refine Below.alloc ?_ (by first | omega | exact Below.size (by assumption) | (simp; done) | (simp; omega)) _ | refine Below.drew ?_ | refine below_drewN ?_ _))
  replace h := h.all hB
  clear hW0 W0
  go_enter Try.func7, Try.ntmps7
  go_upto_region 1 with (fail)
  obtain ⟨W, hW⟩ : ∃ W', W' = ((w.alloc (.cells #[.slice f.pa f.ps.length f.pc, .slice f.la f.pl.length f.lc, .int .i64 f.now, .slice f.da f.dn.length f.dc, .slice f.ha f.hv.length f.hc, .slice f.ga f.gs.length f.gc, .slice f.wa f.wk.length f.wc, .slice f.na f.nt.length f.nc] 29)).alloc (.cells #[.int .i64 x.kind, .int .i64 x.worker, .int .i64 x.k] 31)).alloc (.cells #[.slice none 0 0, .slice none 0 0, .int .i64 0, .slice none 0 0, .slice none 0 0, .slice none 0 0, .slice none 0 0, .slice none 0 0] 29) := ⟨_, rfl⟩
  obtain ⟨gR, hgR⟩ : ∃ g, g = w.heap.size + 1 + 1 := ⟨_, rfl⟩
  obtain ⟨gX, hgX⟩ : ∃ g, g = w.heap.size + 1 := ⟨_, rfl⟩
  obtain ⟨gF, hgF⟩ : ∃ g, g = w.heap.size := ⟨_, rfl⟩
  have hgR1 : w.heap.size ≤ gR := by omega
  have hgF1 : w.heap.size ≤ gF := by omega
  have hne : gF ≠ gR := by omega
  have hneX : gX ≠ gF := by omega
  rw [← hgR] at kR ⊢
  rw [← hgX] at kX ⊢
  rw [← hgF] at kF ⊢
  rw [← hW] at kF kX kR h hB ⊢
  clear hW hgF hgX hgR
  (have q0 := (kF).cell 0; have q1 := (kF).cell 1; have q2 := (kF).cell 2; have q3 := (kF).cell 3; have q4 := (kF).cell 4; have q5 := (kF).cell 5; have q6 := (kF).cell 6; have q7 := (kF).cell 7)
  go_wp2_with fail
  refine (farmCheck_any f W h).mono ?_
  rintro e w1 ⟨rfl, hb1⟩
  replace kF := kF.all hb1
  replace kX := kX.all hb1
  replace kR := kR.all hb1
  replace hB := hB.trans (hb1.mono hB.size)
  replace h := h.all hb1
  obtain ⟨n, hn⟩ : ∃ n, ckFarm f.er = n := ⟨_, rfl⟩
  rw [hn]
  (clear q0 q1 q2 q3 q4 q5 q6 q7)
  clear hb1
  by_cases h0 : n = 0
  · subst h0
    have hF := fine_of hn
    have HN := Lib.hid hn
    clear hn
    (have q0 := (kF).cell 0; have q1 := (kF).cell 1; have q2 := (kF).cell 2; have q3 := (kF).cell 3; have q4 := (kF).cell 4; have q5 := (kF).cell 5; have q6 := (kF).cell 6; have q7 := (kF).cell 7)
    (have z0 := (kF).frozen 0; have z1 := (kF).frozen 1; have z2 := (kF).frozen 2; have z3 := (kF).frozen 3; have z4 := (kF).frozen 4; have z5 := (kF).frozen 5; have z6 := (kF).frozen 6; have z7 := (kF).frozen 7)
    have CP := Lib.hid (copyFarm_any f w1 h hF)
    go_wp2_with fail
    refine CP.out.mono ?_
    rintro e w2 ⟨f1, rfl, hO1, hE1, hb2⟩
    replace kF := kF.all hb2
    replace kX := kX.all hb2
    replace kR := kR.all hb2
    have y0 := hB.size
    replace hB := hB.trans (hb2.mono y0)
    (clear q0 q1 q2 q3 q4 q5 q6 q7)
    (clear z0 z1 z2 z3 z4 z5 z6 z7)
    (have q0 := (kF).cell 0; have q1 := (kF).cell 1; have q2 := (kF).cell 2; have q3 := (kF).cell 3; have q4 := (kF).cell 4; have q5 := (kF).cell 5; have q6 := (kF).cell 6; have q7 := (kF).cell 7)
    (have z0 := (kF).frozen 0; have z1 := (kF).frozen 1; have z2 := (kF).frozen 2; have z3 := (kF).frozen 3; have z4 := (kF).frozen 4; have z5 := (kF).frozen 5; have z6 := (kF).frozen 6; have z7 := (kF).frozen 7)
    have h3 : FB ((((((((w2.setCell ⟨gF, 0, none⟩ (.slice f1.pa f1.ps.length f1.pc)).setCell ⟨gF, 1, none⟩ (.slice f1.la f1.pl.length f1.lc)).setCell ⟨gF, 2, none⟩ (.int .i64 f1.now)).setCell ⟨gF, 3, none⟩ (.slice f1.da f1.dn.length f1.dc)).setCell ⟨gF, 4, none⟩ (.slice f1.ha f1.hv.length f1.hc)).setCell ⟨gF, 5, none⟩ (.slice f1.ga f1.gs.length f1.gc)).setCell ⟨gF, 6, none⟩ (.slice f1.wa f1.wk.length f1.wc)).setCell ⟨gF, 7, none⟩ (.slice f1.na f1.nt.length f1.nc)) w.heap.size gF f1 := ⟨kF.put8 f1, (hO1.mono y0).put8 kF f1, hgF1⟩
    have kX3 := kX.far8 hneX f1
    have kR3 := kR.far8 (Ne.symm hne) f1
    have hB3 := below_put8 hB hgF1 f1
    have hF1 : f1.er.Fine := by rw [hE1]; exact hF
    clear hO1 kF kX kR hB CP h y0 hb2
    go_upto_region 5 with (fail)
    obtain ⟨w3, hw3⟩ : ∃ y, y = ((((((((w2.setCell ⟨gF, 0, none⟩ (.slice f1.pa f1.ps.length f1.pc)).setCell ⟨gF, 1, none⟩ (.slice f1.la f1.pl.length f1.lc)).setCell ⟨gF, 2, none⟩ (.int .i64 f1.now)).setCell ⟨gF, 3, none⟩ (.slice f1.da f1.dn.length f1.dc)).setCell ⟨gF, 4, none⟩ (.slice f1.ha f1.hv.length f1.hc)).setCell ⟨gF, 5, none⟩ (.slice f1.ga f1.gs.length f1.gc)).setCell ⟨gF, 6, none⟩ (.slice f1.wa f1.wk.length f1.wc)).setCell ⟨gF, 7, none⟩ (.slice f1.na f1.nt.length f1.nc)) := ⟨_, rfl⟩
    rw [← hw3] at h3 kX3 kR3 hB3 ⊢
    clear hw3
    (clear q0 q1 q2 q3 q4 q5 q6 q7)
    (clear z0 z1 z2 z3 z4 z5 z6 z7)
    have x0 := kX3.cell 0
    have x1 := kX3.cell 1
    have x2 := kX3.cell 2
    have ST := Lib.hid (step_any f1 x w.heap.size gF w3 h3 hF1)
    rw [hE1] at ST
    obtain ⟨r, hr⟩ : ∃ r, stepP f.er x = r := ⟨_, rfl⟩
    rw [hr] at ST
    have HR := Lib.hid hr
    clear hr hE1 hF1
    go_wp2_with fail
    refine ST.out.mono ?_
    rintro e w4 ⟨rfl, f2, h4, e4, hb4, kf4⟩
    have kR4 := kf4 gR _ (Ne.symm hne) kR3
    have hB4 := hB3.trans hb4
    clear ST kf4 hb4 hB3 kR3 kX3 x0 x1 x2 h3
    obtain ⟨r1, n2⟩ := r
    simp only at e4 ⊢
    by_cases hn2 : n2 = 0
    · subst hn2
      have HE : Hid (doP f.er x = (r1, 0)) := by
        show _ = _
        rw [doP_ok HN.out (by rw [HR.out]), HR.out]
      have kF4 := h4.blk
      (have q0 := (kF4).cell 0; have q1 := (kF4).cell 1; have q2 := (kF4).cell 2; have q3 := (kF4).cell 3; have q4 := (kF4).cell 4; have q5 := (kF4).cell 5; have q6 := (kF4).cell 6; have q7 := (kF4).cell 7)
      (have r0 := (kR4).cell 0; have r1 := (kR4).cell 1; have r2 := (kR4).cell 2; have r3 := (kR4).cell 3; have r4 := (kR4).cell 4; have r5 := (kR4).cell 5; have r6 := (kR4).cell 6; have r7 := (kR4).cell 7)
      (have z0 := (kR4).frozen 0; have z1 := (kR4).frozen 1; have z2 := (kR4).frozen 2; have z3 := (kR4).frozen 3; have z4 := (kR4).frozen 4; have z5 := (kR4).frozen 5; have z6 := (kR4).frozen 6; have z7 := (kR4).frozen 7)
      have hPut := h4.own.put8 kR4 f2
      have hBl := kR4.put8 f2
      have hBe := below_put8 hB4 hgR1 f2
      (have y0 := (hBl).cell 0; have y1 := (hBl).cell 1; have y2 := (hBl).cell 2; have y3 := (hBl).cell 3; have y4 := (hBl).cell 4; have y5 := (hBl).cell 5; have y6 := (hBl).cell 6; have y7 := (hBl).cell 7)
      clear kF4 h4 kR4 hB4 hBl
      go_wp2
      refine bodyPost_ret (v := .tuple #[.agg #[.slice f2.pa f2.ps.length f2.pc, .slice f2.la f2.pl.length f2.lc, .int .i64 f2.now, .slice f2.da f2.dn.length f2.dc, .slice f2.ha f2.hv.length f2.hc, .slice f2.ga f2.gs.length f2.gc, .slice f2.wa f2.wk.length f2.wc, .slice f2.na f2.nt.length f2.nc], .int .i64 0]) (by simp [results, Try.results7, go_sem, y0, y1, y2, y3, y4, y5, y6, y7]) rfl ⟨f2, by rw [HE.out], hPut, by rw [HE.out]; exact e4, hBe⟩
    · have HE : Hid (doP f.er x = (.nil, n2)) := by
        show _ = _
        rw [doP_fail HN.out (by rw [HR.out]; exact hn2), HR.out]
      have hx : (n2 != 0) = true := by simpa using hn2
      (have r0 := (kR4).cell 0; have r1 := (kR4).cell 1; have r2 := (kR4).cell 2; have r3 := (kR4).cell 3; have r4 := (kR4).cell 4; have r5 := (kR4).cell 5; have r6 := (kR4).cell 6; have r7 := (kR4).cell 7)
      (have z0 := (kR4).frozen 0; have z1 := (kR4).frozen 1; have z2 := (kR4).frozen 2; have z3 := (kR4).frozen 3; have z4 := (kR4).frozen 4; have z5 := (kR4).frozen 5; have z6 := (kR4).frozen 6; have z7 := (kR4).frozen 7)
      have hBl := kR4.putz8
      have hBe := below_putz8 hB4 hgR1
      (have y0 := (hBl).cell 0; have y1 := (hBl).cell 1; have y2 := (hBl).cell 2; have y3 := (hBl).cell 3; have y4 := (hBl).cell 4; have y5 := (hBl).cell 5; have y6 := (hBl).cell 6; have y7 := (hBl).cell 7)
      clear kR4 hB4 hBl h4 hn2
      go_wp2
      refine bodyPost_ret (v := .tuple #[.agg #[.slice none 0 0, .slice none 0 0, .int .i64 0, .slice none 0 0, .slice none 0 0, .slice none 0 0, .slice none 0 0, .slice none 0 0], .int .i64 n2]) (by simp [results, Try.results7, go_sem, y0, y1, y2, y3, y4, y5, y6, y7]) rfl ⟨FrM.nil, by rw [HE.out]; rfl, nilF_own _ _, by rw [HE.out]; rfl, hBe⟩
  · have HE : Hid (doP f.er x = (.nil, n)) := by
      show _ = _
      rw [doP_bad (by rw [hn]; exact h0), hn]
    have hx : (n != 0) = true := by simpa using h0
    (have r0 := (kR).cell 0; have r1 := (kR).cell 1; have r2 := (kR).cell 2; have r3 := (kR).cell 3; have r4 := (kR).cell 4; have r5 := (kR).cell 5; have r6 := (kR).cell 6; have r7 := (kR).cell 7)
    (have z0 := (kR).frozen 0; have z1 := (kR).frozen 1; have z2 := (kR).frozen 2; have z3 := (kR).frozen 3; have z4 := (kR).frozen 4; have z5 := (kR).frozen 5; have z6 := (kR).frozen 6; have z7 := (kR).frozen 7)
    have hBl := kR.putz8
    have hBe := below_putz8 hB hgR1
    (have y0 := (hBl).cell 0; have y1 := (hBl).cell 1; have y2 := (hBl).cell 2; have y3 := (hBl).cell 3; have y4 := (hBl).cell 4; have y5 := (hBl).cell 5; have y6 := (hBl).cell 6; have y7 := (hBl).cell 7)
    clear kR hB hBl h h0 hn kF kX
    go_wp2
    refine bodyPost_ret (v := .tuple #[.agg #[.slice none 0 0, .slice none 0 0, .int .i64 0, .slice none 0 0, .slice none 0 0, .slice none 0 0, .slice none 0 0, .slice none 0 0], .int .i64 n]) (by simp [results, Try.results7, go_sem, y0, y1, y2, y3, y4, y5, y6, y7]) rfl ⟨FrM.nil, by rw [HE.out]; rfl, nilF_own _ _, by rw [HE.out]; rfl, hBe⟩
end Go.Proofs.Ytkfmkemjoddinaa
