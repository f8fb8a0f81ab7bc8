/- ropewalklaw.FarmRises: it answers true. -/
import Derived.Test.YtkfmkemjoddinaaFarmA
import Derived.Test.YtkfmkemjoddinaaFmC
import Derived.Test.YtkfmkemjoddinaaEqPt
import Derived.Test.YtkfmkemjoddinaaEqN
set_option linter.all false
namespace Go.Proofs.Ytkfmkemjoddinaa
open Go.RowKit
set_option maxRecDepth 100000

set_option maxHeartbeats 40000000 in
theorem farmRises_any (f : FrM) (x : Hap) (w : World) (h : f.At w w.heap.size) :
    Calls Try.prog 3 #[.agg #[.slice f.pa f.ps.length f.pc, .slice f.la f.pl.length f.lc, .int .i64 f.now, .slice f.da f.dn.length f.dc, .slice f.ha f.hv.length f.hc, .slice f.ga f.gs.length f.gc, .slice f.wa f.wk.length f.wc, .slice f.na f.nt.length f.nc], .agg #[.int .i64 x.kind, .int .i64 x.worker, .int .i64 x.k]] w fun e w' => e = .returned (.bool true) ∧ Below w.heap.size w w' := by
  have kF := (Blk.new w 29 #[.slice f.pa f.ps.length f.pc, .slice f.la f.pl.length f.lc, .int .i64 f.now, .slice f.da f.dn.length f.dc, .slice f.ha f.hv.length f.hc, .slice f.ga f.gs.length f.gc, .slice f.wa f.wk.length f.wc, .slice f.na f.nt.length f.nc]).alloc (.cells #[.int .i64 x.kind, .int .i64 x.worker, .int .i64 x.k] 31)
  have kX := Blk.new' (w.alloc (.cells #[.slice f.pa f.ps.length f.pc, .slice f.la f.pl.length f.lc, .int .i64 f.now, .slice f.da f.dn.length f.dc, .slice f.ha f.hv.length f.hc, .slice f.ga f.gs.length f.gc, .slice f.wa f.wk.length f.wc, .slice f.na f.nt.length f.nc] 29)) 31 #[.int .i64 x.kind, .int .i64 x.worker, .int .i64 x.k] (g := w.heap.size + 1) (by simp)
  have hB : Below w.heap.size w ((w.alloc (.cells #[.slice f.pa f.ps.length f.pc, .slice f.la f.pl.length f.lc, .int .i64 f.now, .slice f.da f.dn.length f.dc, .slice f.ha f.hv.length f.hc, .slice f.ga f.gs.length f.gc, .slice f.wa f.wk.length f.wc, .slice f.na f.nt.length f.nc] 29)).alloc (.cells #[.int .i64 x.kind, .int .i64 x.worker, .int .i64 x.k] 31)) := by (repeat' (first | exact Below.refl _ _ | assumption | refine Below.setCell ?_ (by first | omega | exact Below.size (by assumption) | (simp; done) | (simp; omega)) _ | refine Below.alloc ?_ (by first | omega | exact Below.size (by assumption) | (simp; done) | (simp; omega)) _ | refine Below.drew ?_ | refine below_drewN ?_ _))
  replace h := h.all hB
  go_enter Try.func3, Try.ntmps3
  go_upto_region 1 with (fail)
  obtain ⟨W, hW⟩ : ∃ W', W' = (w.alloc (.cells #[.slice f.pa f.ps.length f.pc, .slice f.la f.pl.length f.lc, .int .i64 f.now, .slice f.da f.dn.length f.dc, .slice f.ha f.hv.length f.hc, .slice f.ga f.gs.length f.gc, .slice f.wa f.wk.length f.wc, .slice f.na f.nt.length f.nc] 29)).alloc (.cells #[.int .i64 x.kind, .int .i64 x.worker, .int .i64 x.k] 31) := ⟨_, rfl⟩
  obtain ⟨gX, hgX⟩ : ∃ g, g = w.heap.size + 1 := ⟨_, rfl⟩
  obtain ⟨gF, hgF⟩ : ∃ g, g = w.heap.size := ⟨_, rfl⟩
  rw [← hgX] at kX ⊢
  rw [← hgF] at kF ⊢
  rw [← hW] at kF kX h hB ⊢
  clear hW hgF hgX
  (have q0 := (kF).cell 0; have q1 := (kF).cell 1; have q2 := (kF).cell 2; have q3 := (kF).cell 3; have q4 := (kF).cell 4; have q5 := (kF).cell 5; have q6 := (kF).cell 6; have q7 := (kF).cell 7)
  have x0 := kX.cell 0
  have x1 := kX.cell 1
  have x2 := kX.cell 2
  obtain ⟨r, hr⟩ : ∃ r, doP f.er x = r := ⟨_, rfl⟩
  have DO := Lib.hid (do_any f x W h)
  rw [hr] at DO
  have HR := Lib.hid hr
  clear hr
  go_wp2_with fail
  refine DO.out.mono ?_
  rintro e w1 ⟨g, rfl, hO, hE, hb1⟩
  obtain ⟨r1, n⟩ := r
  dsimp only at hE ⊢
  (clear q0 q1 q2 q3 q4 q5 q6 q7)
  clear x0 x1 x2 DO
  go_upto_region 2 with (fail)
  have hs := hb1.alloc hb1.size (.cells #[.slice g.pa g.ps.length g.pc, .slice g.la g.pl.length g.lc, .int .i64 g.now, .slice g.da g.dn.length g.dc, .slice g.ha g.hv.length g.hc, .slice g.ga g.gs.length g.gc, .slice g.wa g.wk.length g.wc, .slice g.na g.nt.length g.nc] 29)
  have kG := Blk.new w1 29 #[.slice g.pa g.ps.length g.pc, .slice g.la g.pl.length g.lc, .int .i64 g.now, .slice g.da g.dn.length g.dc, .slice g.ha g.hv.length g.hc, .slice g.ga g.gs.length g.gc, .slice g.wa g.wk.length g.wc, .slice g.na g.nt.length g.nc]
  have hO2 := hO.alloc (.cells #[.slice g.pa g.ps.length g.pc, .slice g.la g.pl.length g.lc, .int .i64 g.now, .slice g.da g.dn.length g.dc, .slice g.ha g.hv.length g.hc, .slice g.ga g.gs.length g.gc, .slice g.wa g.wk.length g.wc, .slice g.na g.nt.length g.nc] 29)
  replace kF := kF.all hs
  replace kX := kX.all hs
  replace h := h.all hs
  replace hB := hB.trans (hs.mono hB.size)
  obtain ⟨gG, hgG⟩ : ∃ g, g = w1.heap.size := ⟨_, rfl⟩
  obtain ⟨w2, hw2⟩ : ∃ y, y = w1.alloc (.cells #[.slice g.pa g.ps.length g.pc, .slice g.la g.pl.length g.lc, .int .i64 g.now, .slice g.da g.dn.length g.dc, .slice g.ha g.hv.length g.hc, .slice g.ga g.gs.length g.gc, .slice g.wa g.wk.length g.wc, .slice g.na g.nt.length g.nc] 29) := ⟨_, rfl⟩
  rw [← hgG] at kG ⊢
  rw [← hw2] at kG hO2 kF kX h hB ⊢
  clear hw2 hgG hs hO hb1
  have HG := Lib.hid hE
  clear hE
  go_wp2_with fail
  refine (farmed_any w2).mono ?_
  rintro e w3 ⟨rfl, hb3⟩
  replace kF := kF.all hb3
  replace kX := kX.all hb3
  replace kG := kG.all hb3
  replace h := h.all hb3
  replace hO2 := hO2.all hb3
  replace hB := hB.trans (hb3.mono hB.size)
  clear hb3
  by_cases hn : n = 0
  · subst hn
    have hck : ckFarm f.er = 0 := Classical.byContradiction fun hc => by
      have := HR.out
      rw [doP_bad hc] at this
      injection this with _ this
      exact hc this
    have hst : (stepP f.er x).2 = 0 := Classical.byContradiction fun hc => by
      have := HR.out
      rw [doP_fail hck hc] at this
      injection this with _ this
      exact hc this
    have hr1 : r1 = (stepP f.er x).1 := by
      have := HR.out
      rw [doP_ok hck hst] at this
      injection this with this _
      exact this.symm
    have hF := fine_of hck
    have hgE : g.er = (stepP f.er x).1 := HG.out.trans hr1
    have hFG : g.er.Fine := by rw [hgE]; exact fine_step hF x
    have kp := stepP_kept f.er x hst
    have knw := step_now f.er x
    have krs := step_rises hF x
    rw [← hgE] at kp knw krs
    clear hgE hr1 hst HR HG
    obtain ⟨e1, e2, e3, e4, e5, e6⟩ := kp
    have HP1 : Hid (decide (g.ps.map PtM.er = f.ps.map PtM.er) = true) := decide_eq_true e1
    have HP2 : Hid ((g.pl == f.pl) = true) := by show _ = _; rw [show g.pl = f.pl from e2]; exact beq_self_eq_true _
    have HCK := Lib.hid hFG.ck
    have e5' : g.hv.length = f.hv.length := by simpa [FrM.er] using e5
    have t1 : ((g.wk.length : Int) != (f.wk.length : Int)) = false := by rw [show g.wk.length = f.wk.length from e3]; simp
    have t2 : ((g.dn.length : Int) != (f.dn.length : Int)) = false := by rw [show g.dn.length = f.dn.length from e4]; simp
    have t3 : ((g.hv.length : Int) != (f.hv.length : Int)) = false := by rw [e5']; simp
    have t4 : decide (g.now < f.now) = false := decide_eq_false (by have := knw.1; show ¬ g.now < f.now; have a : f.er.now = f.now := rfl; have b : g.er.now = g.now := rfl; omega)
    have m1 : f.now ≤ 65536 := hF.n1
    have m0 : 0 ≤ f.now := hF.n0
    have hw1 : IntKind.i64.wrap (f.now + 1) = f.now + 1 := by rw [IntKind.wrap_i64]; omega
    have t5 : decide (f.now + 1 < g.now) = false := decide_eq_false (by have := knw.2; have a : f.er.now = f.now := rfl; have b : g.er.now = g.now := rfl; omega)
    have HE4 : Hid (g.dn.length = f.dn.length) := e4
    have HE5 := Lib.hid e5'
    have HLH : Hid (f.hv.length = f.dn.length) := by show _ = _; have a : f.dn.length = f.pl.length := hF.ld; have b := hF.lh; simp only [FrM.er, List.length_map] at b; omega
    have n23 : f.dn.length ≤ 23 := by have a : f.dn.length = f.pl.length := hF.ld; have b := (ckPlan_zero hF.pl).2.2.1; have c : f.er.pl.length = f.pl.length := rfl; omega
    have KRS := Lib.hid krs
    clear e1 e2 e3 e4 e5 e5' e6 knw krs m0 m1 hck hFG hF
    (have q0 := (kF).cell 0; have q1 := (kF).cell 1; have q2 := (kF).cell 2; have q3 := (kF).cell 3; have q4 := (kF).cell 4; have q5 := (kF).cell 5; have q6 := (kF).cell 6; have q7 := (kF).cell 7)
    (have r0 := (kG).cell 0; have r1 := (kG).cell 1; have r2 := (kG).cell 2; have r3 := (kG).cell 3; have r4 := (kG).cell 4; have r5 := (kG).cell 5; have r6 := (kG).cell 6; have r7 := (kG).cell 7)
    have hg2 := hO2.at_
    have CK := Lib.hid (farmCheck_any g w3 hg2)
    rw [HCK.out] at CK
    go_wp2_with (first
      | (go_at_call 9; refine CK.out.mono ?_; rintro e w4 ⟨rfl, hb4⟩; have f4 := h.all hb4; have g4 := hO2.all hb4; have kF4 := kF.all hb4; have kG4 := kG.all hb4; (clear q0 q1 q2 q3 q4 q5 q6 q7 r0 r1 r2 r3 r4 r5 r6 r7); have q1 := kF4.cell 1; have r1 := kG4.cell 1)
      | (go_at_call 10; refine (equalNodes_any g.la f.la g.lc f.lc g.pl f.pl w4 g4.at_.pl f4.pl g4.at_.big.2.1).mono ?_; rintro e w5 ⟨rfl, hb5⟩; rw [HP2.out]; have f5 := f4.all hb5; have g5 := g4.all hb5; have kF5 := kF4.all hb5; have kG5 := kG4.all hb5; clear q1 r1; have q0 := kF5.cell 0; have r0 := kG5.cell 0)
      | (go_at_call 11; refine (equalParts_any g.pa f.pa g.pc f.pc g.ps f.ps w5 g5.at_.ps f5.ps g5.at_.big.1 f5.big.1).mono ?_; rintro e w6 ⟨rfl, hb6⟩; rw [HP1.out]; have f6 := f5.all hb6; have g6 := g5.all hb6; have kF6 := kF5.all hb6; have kG6 := kG5.all hb6; clear q0 r0; have q2 := kF6.cell 2; have r2 := kG6.cell 2; have q3 := kF6.cell 3; have r3 := kG6.cell 3; have q4 := kF6.cell 4; have r4 := kG6.cell 4; have q6 := kF6.cell 6; have r6 := kG6.cell 6))
    clear CK f4 g4 kF4 kG4 f5 g5 kF5 kG5 h hO2 kF kG HP1 HP2 HCK t1 t2 t3 t4 t5 hw1 q2 r2 r3 r4 q6 r6
    have hb36 := hb4.trans ((hb5.trans (hb6.mono hb5.size)).mono hb4.size)
    have hB6 := hB.trans (hb36.mono hB.size)
    have kX6 := kX.all hb36
    clear hb4 hb5 hb6 hB hb36 kX
    go_loopw [87, 7] (fun i m wr => ∃ k : Nat, k ≤ f.dn.length ∧ i = .int .i64 k ∧ m = .int .i64 ((newly f.dn g.dn k : Nat) : Int) ∧ Below w6.heap.size w6 wr) (fun i _ _ => f.dn.length - (intOf i).toNat)
    case atStart => exact ⟨0, Nat.zero_le _, rfl, by simp [newly], Below.refl _ _⟩
    case round =>
      obtain ⟨k, hk, rfl, rfl, hb⟩ := hrel
      by_cases hlt : k < f.dn.length
      · have hlh : k < f.hv.length := by have := HLH.out; omega
        have hgl : k < g.dn.length := by have := HE4.out; omega
        have hgh : k < g.hv.length := by have := HE5.out; omega
        obtain ⟨pa, hpa⟩ : ∃ p, f.dn[k]? = some p := ⟨_, List.getElem?_eq_getElem hlt⟩
        obtain ⟨pb, hpb⟩ : ∃ p, g.dn[k]? = some p := ⟨_, List.getElem?_eq_getElem hgl⟩
        have ff := f6.all hb
        have gg := (g6.all hb).at_
        have kF := kF6.all hb
        have kG := kG6.all hb
        obtain ⟨bn, on, ead, bln, hcn⟩ := ff.dn.2 (by omega)
        have ca := hcn k (.bool pa) (by simp only [boolsV, List.getElem?_map, hpa]; rfl)
        obtain ⟨bm, om, ebd, blm, hcm⟩ := gg.dn.2 (by omega)
        have cb := hcm k (.bool pb) (by simp only [boolsV, List.getElem?_map, hpb]; rfl)
        have HPA := Lib.hid hpa
        have HPB := Lib.hid hpb
        have hst := newly_step hpa hpb
        have i1 : (k : Int) < (f.dn.length : Int) := by omega
        have i2 : (k : Int) < (g.dn.length : Int) := by omega
        have i3 : (k : Int) < (f.hv.length : Int) := by omega
        have i4 : (k : Int) < (g.hv.length : Int) := by omega
        rw [ead] at kF
        rw [ebd] at kG
        have z3 := kF.cell 3
        have y3 := kG.cell 3
        clear hcn hcm hpa hpb
        go_upto_region 10 with (fail)
        cases pa with
        | false =>
          go_quiet (fail)
          have hdn : Below wr.heap.size wr (wr.drewN nq) := below_drewN (Below.refl _ _) nq
          replace kF := kF.all hdn
          replace kG := kG.all hdn
          replace cb := (hdn.cell (p := ⟨bm, om + k, none⟩) blm).trans cb
          have hbn := hb.trans (hdn.mono hb.size)
          obtain ⟨Wr, hWr⟩ : ∃ y, y = wr.drewN nq := ⟨_, rfl⟩
          rw [← hWr] at kF kG cb hbn ⊢
          clear hWr hdn z3 y3 ca ff gg hb
          have y3 := kG.cell 3
          have N1 : newly f.dn g.dn k ≤ 23 := by unfold newly; have := List.countP_le_length (p := fun x : Bool × Bool => !x.1 && x.2) (l := (f.dn.zip g.dn).take k); have : ((f.dn.zip g.dn).take k).length ≤ k := List.length_take_le _ _; omega
          have hw1 : IntKind.i64.wrap (((newly f.dn g.dn k : Nat) : Int) + 1) = ((newly f.dn g.dn k : Nat) : Int) + 1 := by rw [IntKind.wrap_i64]; omega
          go_upto_region 12 with (fail)
          cases pb with
          | true =>
            have hst2 : ((newly f.dn g.dn (k + 1) : Nat) : Int) = ((newly f.dn g.dn k : Nat) : Int) + 1 := by rw [hst]; rfl
            go_wp2
            go_roundw
            case rel => exact ⟨k + 1, by omega, by go_num, by rw [hst2], hbn⟩
            case measure => simp [intOf]; omega
          | false =>
            have hst2 : newly f.dn g.dn (k + 1) = newly f.dn g.dn k := by rw [hst]; rfl
            go_wp2
            go_roundw
            case rel => exact ⟨k + 1, by omega, by go_num, by rw [hst2], hbn⟩
            case measure => simp [intOf]; omega
        | true =>
          have krs1 := KRS.out.1 k HPA.out
          obtain rfl : pb = true := by
            have a : g.dn[k]? = some true := krs1.1
            rw [HPB.out] at a; injection a
          obtain ⟨ya, hya⟩ : ∃ p, f.hv[k]? = some p := ⟨_, List.getElem?_eq_getElem hlh⟩
          obtain ⟨yb, hyb⟩ : ∃ p, g.hv[k]? = some p := ⟨_, List.getElem?_eq_getElem hgh⟩
          have HYE : Hid (decide (yb.er = ya.er) = true) := decide_eq_true (by
            have a := krs1.2
            simp only [FrM.er, List.getElem?_map, hya, hyb, Option.map_some] at a
            injection a)
          have hYA := ff.hv.each ya (List.mem_of_getElem? hya)
          have hYB := gg.hv.each yb (List.mem_of_getElem? hyb)
          obtain ⟨bh, oh, eah, blh, c0, c1⟩ := pt_get ff.hv.row hya
          obtain ⟨bh', oh', eah', blh', d0, d1⟩ := pt_get gg.hv.row hyb
          rw [eah] at kF
          rw [eah'] at kG
          clear krs1 hya hyb eah eah' ead ebd
          have hS : Hid (∀ w', Below wr.heap.size wr w' → (w'.cell? ⟨gG, 3, none⟩ = some (.slice (some ⟨bm, om, none⟩) g.dn.length g.dc) ∧ w'.cell? ⟨bm, om + k, none⟩ = some (.bool true) ∧ w'.cell? ⟨gG, 4, none⟩ = some (.slice (some ⟨bh', oh', none⟩) g.hv.length g.hc) ∧ w'.cell? ⟨gF, 4, none⟩ = some (.slice (some ⟨bh, oh, none⟩) f.hv.length f.hc) ∧ w'.cell? ⟨bh, oh + k * 2, none⟩ = some (.slice ya.fa ya.frs.length ya.fc) ∧ w'.cell? ⟨bh, oh + k * 2 + 1, none⟩ = some (.slice ya.da ya.dfs.length ya.dc) ∧ w'.cell? ⟨bh', oh' + k * 2, none⟩ = some (.slice yb.fa yb.frs.length yb.fc) ∧ w'.cell? ⟨bh', oh' + k * 2 + 1, none⟩ = some (.slice yb.da yb.dfs.length yb.dc))) :=
            fun w' h => ⟨(kG.all h).cell 3, (h.cell (p := ⟨bm, om + k, none⟩) blm).trans cb, (kG.all h).cell 4, (kF.all h).cell 4, (h.cell (p := ⟨bh, oh + k * 2, none⟩) blh).trans c0, (h.cell (p := ⟨bh, oh + k * 2 + 1, none⟩) blh).trans c1, (h.cell (p := ⟨bh', oh' + k * 2, none⟩) blh').trans d0, (h.cell (p := ⟨bh', oh' + k * 2 + 1, none⟩) blh').trans d1⟩
          have hb1 := (Below.refl wr.heap.size wr).drew
          refine wp_region_late (S := (fun w' => w'.cell? ⟨gG, 3, none⟩ = some (.slice (some ⟨bm, om, none⟩) g.dn.length g.dc) ∧ w'.cell? ⟨bm, om + k, none⟩ = some (.bool true) ∧ w'.cell? ⟨gG, 4, none⟩ = some (.slice (some ⟨bh', oh', none⟩) g.hv.length g.hc) ∧ w'.cell? ⟨gF, 4, none⟩ = some (.slice (some ⟨bh, oh, none⟩) f.hv.length f.hc) ∧ w'.cell? ⟨bh, oh + k * 2, none⟩ = some (.slice ya.fa ya.frs.length ya.fc) ∧ w'.cell? ⟨bh, oh + k * 2 + 1, none⟩ = some (.slice ya.da ya.dfs.length ya.dc) ∧ w'.cell? ⟨bh', oh' + k * 2, none⟩ = some (.slice yb.fa yb.frs.length yb.fc) ∧ w'.cell? ⟨bh', oh' + k * 2 + 1, none⟩ = some (.slice yb.da yb.dfs.length yb.dc)))
            [] (by kernel_rfl) (hS.out _ hb1) (fun hHeld => ?_)
          obtain ⟨wv, hwv⟩ : ∃ x, x = wr.drew := ⟨_, rfl⟩
          rw [← hwv] at hb1 hHeld ⊢
          clear hwv c0 c1 d0 d1 z3 y3 ca cb
          (refine wpAnyLT_take (i := 0) (oi := { dst := some 92, op := Op.move (Operand.tmp 9), type := 4, pos := "more.go:297", after := #[], guard := none }) (v := ?_) rfl (by kernel_rfl) (by kernel_rfl) (by kernel_rfl) (fun _ _ _ h => h) (Or.inl ⟨by rfl, ?_⟩) (by assumption) (by kernel_rfl) (by rfl) (by kernel_rfl) ?_; rotate_left; (focus (intro w hSw; (try dsimp only at hSw); go_simp; (try with_reducible rfl))); (try simp only [Act.put, List.setIfInBounds_toArray, List.set_cons_zero, List.set_cons_succ]))
          (refine wpAnyLT_take (i := 1) (oi := { dst := some 93, op := Op.move (Operand.tmp 92), type := 4, pos := "more.go:297", after := #[{ on := 0, ground := Ground.data }], guard := none }) (v := ?_) rfl (by kernel_rfl) (by kernel_rfl) (by kernel_rfl) (fun _ _ _ h => h) (Or.inl ⟨by rfl, ?_⟩) (by assumption) (by kernel_rfl) (by rfl) (by kernel_rfl) ?_; rotate_left; (focus (intro w hSw; (try dsimp only at hSw); go_simp; (try with_reducible rfl))); (try simp only [Act.put, List.setIfInBounds_toArray, List.set_cons_zero, List.set_cons_succ]))
          (refine wpAnyLT_take (i := 2) (oi := { dst := some 94, op := Op.fieldAddr 29 (Operand.tmp 5) 3, type := 0, pos := "more.go:297", after := #[{ on := 1, ground := Ground.guard }], guard := some (1, true) }) (v := ?_) rfl (by kernel_rfl) (by kernel_rfl) (by kernel_rfl) (fun _ _ _ h => h) (Or.inl ⟨by rfl, ?_⟩) (by assumption) (by kernel_rfl) (by rfl) (by kernel_rfl) ?_; rotate_left; (focus (intro w hSw; (try dsimp only at hSw); go_simp; (try with_reducible rfl))); (try simp only [Act.put, List.setIfInBounds_toArray, List.set_cons_zero, List.set_cons_succ]))
          (refine wpAnyLT_take (i := 3) (oi := { dst := some 95, op := Op.load 24 (Operand.tmp 94), type := 24, pos := "more.go:297", after := #[{ on := 2, ground := Ground.data }, { on := 1, ground := Ground.guard }], guard := some (1, true) }) (v := ?_) rfl (by kernel_rfl) (by kernel_rfl) (by kernel_rfl) (fun _ _ _ h => h) (Or.inl ⟨by rfl, ?_⟩) (by assumption) (by kernel_rfl) (by rfl) (by kernel_rfl) ?_; rotate_left; (focus (intro w hSw; (try dsimp only at hSw); go_simp; (try with_reducible rfl))); (try simp only [Act.put, List.setIfInBounds_toArray, List.set_cons_zero, List.set_cons_succ]))
          (refine wpAnyLT_take (i := 4) (oi := { dst := some 96, op := Op.move (Operand.tmp 8), type := 3, pos := "more.go:297", after := #[{ on := 1, ground := Ground.guard }], guard := some (1, true) }) (v := ?_) rfl (by kernel_rfl) (by kernel_rfl) (by kernel_rfl) (fun _ _ _ h => h) (Or.inl ⟨by rfl, ?_⟩) (by assumption) (by kernel_rfl) (by rfl) (by kernel_rfl) ?_; rotate_left; (focus (intro w hSw; (try dsimp only at hSw); go_simp; (try with_reducible rfl))); (try simp only [Act.put, List.setIfInBounds_toArray, List.set_cons_zero, List.set_cons_succ]))
          (refine wpAnyLT_take (i := 5) (oi := { dst := some 97, op := Op.indexAddr 24 (Operand.tmp 95) (Operand.tmp 96), type := 0, pos := "more.go:297", after := #[{ on := 3, ground := Ground.data }, { on := 4, ground := Ground.data }, { on := 1, ground := Ground.guard }], guard := some (1, true) }) (v := ?_) rfl (by kernel_rfl) (by kernel_rfl) (by kernel_rfl) (fun _ _ _ h => h) (Or.inl ⟨by rfl, ?_⟩) (by assumption) (by kernel_rfl) (by rfl) (by kernel_rfl) ?_; rotate_left; (focus (intro w hSw; (try dsimp only at hSw); go_simp; (try with_reducible rfl))); (try simp only [Act.put, List.setIfInBounds_toArray, List.set_cons_zero, List.set_cons_succ]))
          (refine wpAnyLT_take (i := 6) (oi := { dst := some 98, op := Op.load 4 (Operand.tmp 97), type := 4, pos := "more.go:297", after := #[{ on := 5, ground := Ground.data }, { on := 1, ground := Ground.guard }], guard := some (1, true) }) (v := ?_) rfl (by kernel_rfl) (by kernel_rfl) (by kernel_rfl) (fun _ _ _ h => h) (Or.inl ⟨by rfl, ?_⟩) (by assumption) (by kernel_rfl) (by rfl) (by kernel_rfl) ?_; rotate_left; (focus (intro w hSw; (try dsimp only at hSw); go_simp; (try with_reducible rfl))); (try simp only [Act.put, List.setIfInBounds_toArray, List.set_cons_zero, List.set_cons_succ]))
          (refine wpAnyLT_take (i := 7) (oi := { dst := some 99, op := Op.unOp UnOp.not 4 (Operand.tmp 98), type := 4, pos := "more.go:297", after := #[{ on := 6, ground := Ground.data }, { on := 1, ground := Ground.guard }], guard := some (1, true) }) (v := ?_) rfl (by kernel_rfl) (by kernel_rfl) (by kernel_rfl) (fun _ _ _ h => h) (Or.inl ⟨by rfl, ?_⟩) (by assumption) (by kernel_rfl) (by rfl) (by kernel_rfl) ?_; rotate_left; (focus (intro w hSw; (try dsimp only at hSw); go_simp; (try with_reducible rfl))); (try simp only [Act.put, List.setIfInBounds_toArray, List.set_cons_zero, List.set_cons_succ]))
          (refine wpAnyLT_take (i := 8) (oi := { dst := some 100, op := Op.move (Operand.tmp 99), type := 4, pos := "more.go:297", after := #[{ on := 7, ground := Ground.data }, { on := 1, ground := Ground.chain }, { on := 1, ground := Ground.guard }], guard := some (1, true) }) (v := ?_) rfl (by kernel_rfl) (by kernel_rfl) (by kernel_rfl) (fun _ _ _ h => h) (Or.inl ⟨by rfl, ?_⟩) (by assumption) (by kernel_rfl) (by rfl) (by kernel_rfl) ?_; rotate_left; (focus (intro w hSw; (try dsimp only at hSw); go_simp; (try with_reducible rfl))); (try simp only [Act.put, List.setIfInBounds_toArray, List.set_cons_zero, List.set_cons_succ]))
          (refine wpAnyLT_take (i := 9) (oi := { dst := some 101, op := Op.fieldAddr 29 (Operand.tmp 5) 4, type := 0, pos := "more.go:297", after := #[{ on := 8, ground := Ground.guard }], guard := some (8, false) }) (v := ?_) rfl (by kernel_rfl) (by kernel_rfl) (by kernel_rfl) (fun _ _ _ h => h) (Or.inl ⟨by rfl, ?_⟩) (by assumption) (by kernel_rfl) (by rfl) (by kernel_rfl) ?_; rotate_left; (focus (intro w hSw; (try dsimp only at hSw); go_simp; (try with_reducible rfl))); (try simp only [Act.put, List.setIfInBounds_toArray, List.set_cons_zero, List.set_cons_succ]))
          (refine wpAnyLT_take (i := 10) (oi := { dst := some 102, op := Op.load 22 (Operand.tmp 101), type := 22, pos := "more.go:297", after := #[{ on := 9, ground := Ground.data }, { on := 8, ground := Ground.guard }], guard := some (8, false) }) (v := ?_) rfl (by kernel_rfl) (by kernel_rfl) (by kernel_rfl) (fun _ _ _ h => h) (Or.inl ⟨by rfl, ?_⟩) (by assumption) (by kernel_rfl) (by rfl) (by kernel_rfl) ?_; rotate_left; (focus (intro w hSw; (try dsimp only at hSw); go_simp; (try with_reducible rfl))); (try simp only [Act.put, List.setIfInBounds_toArray, List.set_cons_zero, List.set_cons_succ]))
          (refine wpAnyLT_take (i := 11) (oi := { dst := some 103, op := Op.move (Operand.tmp 8), type := 3, pos := "more.go:297", after := #[{ on := 8, ground := Ground.guard }], guard := some (8, false) }) (v := ?_) rfl (by kernel_rfl) (by kernel_rfl) (by kernel_rfl) (fun _ _ _ h => h) (Or.inl ⟨by rfl, ?_⟩) (by assumption) (by kernel_rfl) (by rfl) (by kernel_rfl) ?_; rotate_left; (focus (intro w hSw; (try dsimp only at hSw); go_simp; (try with_reducible rfl))); (try simp only [Act.put, List.setIfInBounds_toArray, List.set_cons_zero, List.set_cons_succ]))
          (refine wpAnyLT_take (i := 12) (oi := { dst := some 104, op := Op.indexAddr 22 (Operand.tmp 102) (Operand.tmp 103), type := 0, pos := "more.go:297", after := #[{ on := 10, ground := Ground.data }, { on := 11, ground := Ground.data }, { on := 8, ground := Ground.guard }], guard := some (8, false) }) (v := ?_) rfl (by kernel_rfl) (by kernel_rfl) (by kernel_rfl) (fun _ _ _ h => h) (Or.inl ⟨by rfl, ?_⟩) (by assumption) (by kernel_rfl) (by rfl) (by kernel_rfl) ?_; rotate_left; (focus (intro w hSw; (try dsimp only at hSw); go_simp; (try with_reducible rfl))); (try simp only [Act.put, List.setIfInBounds_toArray, List.set_cons_zero, List.set_cons_succ]))
          (refine wpAnyLT_take (i := 13) (oi := { dst := some 105, op := Op.load 44 (Operand.tmp 104), type := 44, pos := "more.go:297", after := #[{ on := 12, ground := Ground.data }, { on := 8, ground := Ground.guard }], guard := some (8, false) }) (v := ?_) rfl (by kernel_rfl) (by kernel_rfl) (by kernel_rfl) (fun _ _ _ h => h) (Or.inl ⟨by rfl, ?_⟩) (by assumption) (by kernel_rfl) (by rfl) (by kernel_rfl) ?_; rotate_left; (focus (intro w hSw; (try dsimp only at hSw); go_simp; (try with_reducible rfl))); (try simp only [Act.put, List.setIfInBounds_toArray, List.set_cons_zero, List.set_cons_succ]))
          (refine wpAnyLT_take (i := 14) (oi := { dst := some 106, op := Op.fieldAddr 29 (Operand.tmp 2) 4, type := 0, pos := "more.go:297", after := #[{ on := 8, ground := Ground.guard }], guard := some (8, false) }) (v := ?_) rfl (by kernel_rfl) (by kernel_rfl) (by kernel_rfl) (fun _ _ _ h => h) (Or.inl ⟨by rfl, ?_⟩) (by assumption) (by kernel_rfl) (by rfl) (by kernel_rfl) ?_; rotate_left; (focus (intro w hSw; (try dsimp only at hSw); go_simp; (try with_reducible rfl))); (try simp only [Act.put, List.setIfInBounds_toArray, List.set_cons_zero, List.set_cons_succ]))
          (refine wpAnyLT_take (i := 15) (oi := { dst := some 107, op := Op.load 22 (Operand.tmp 106), type := 22, pos := "more.go:297", after := #[{ on := 14, ground := Ground.data }, { on := 8, ground := Ground.guard }], guard := some (8, false) }) (v := ?_) rfl (by kernel_rfl) (by kernel_rfl) (by kernel_rfl) (fun _ _ _ h => h) (Or.inl ⟨by rfl, ?_⟩) (by assumption) (by kernel_rfl) (by rfl) (by kernel_rfl) ?_; rotate_left; (focus (intro w hSw; (try dsimp only at hSw); go_simp; (try with_reducible rfl))); (try simp only [Act.put, List.setIfInBounds_toArray, List.set_cons_zero, List.set_cons_succ]))
          (refine wpAnyLT_take (i := 16) (oi := { dst := some 108, op := Op.move (Operand.tmp 8), type := 3, pos := "more.go:297", after := #[{ on := 8, ground := Ground.guard }], guard := some (8, false) }) (v := ?_) rfl (by kernel_rfl) (by kernel_rfl) (by kernel_rfl) (fun _ _ _ h => h) (Or.inl ⟨by rfl, ?_⟩) (by assumption) (by kernel_rfl) (by rfl) (by kernel_rfl) ?_; rotate_left; (focus (intro w hSw; (try dsimp only at hSw); go_simp; (try with_reducible rfl))); (try simp only [Act.put, List.setIfInBounds_toArray, List.set_cons_zero, List.set_cons_succ]))
          (refine wpAnyLT_take (i := 17) (oi := { dst := some 109, op := Op.indexAddr 22 (Operand.tmp 107) (Operand.tmp 108), type := 0, pos := "more.go:297", after := #[{ on := 15, ground := Ground.data }, { on := 16, ground := Ground.data }, { on := 8, ground := Ground.guard }], guard := some (8, false) }) (v := ?_) rfl (by kernel_rfl) (by kernel_rfl) (by kernel_rfl) (fun _ _ _ h => h) (Or.inl ⟨by rfl, ?_⟩) (by assumption) (by kernel_rfl) (by rfl) (by kernel_rfl) ?_; rotate_left; (focus (intro w hSw; (try dsimp only at hSw); go_simp; (try with_reducible rfl))); (try simp only [Act.put, List.setIfInBounds_toArray, List.set_cons_zero, List.set_cons_succ]))
          (refine wpAnyLT_take (i := 18) (oi := { dst := some 110, op := Op.load 44 (Operand.tmp 109), type := 44, pos := "more.go:297", after := #[{ on := 17, ground := Ground.data }, { on := 8, ground := Ground.guard }], guard := some (8, false) }) (v := ?_) rfl (by kernel_rfl) (by kernel_rfl) (by kernel_rfl) (fun _ _ _ h => h) (Or.inl ⟨by rfl, ?_⟩) (by assumption) (by kernel_rfl) (by rfl) (by kernel_rfl) ?_; rotate_left; (focus (intro w hSw; (try dsimp only at hSw); go_simp; (try with_reducible rfl))); (try simp only [Act.put, List.setIfInBounds_toArray, List.set_cons_zero, List.set_cons_succ]))
          have SM := Lib.hid (same_any yb ya wv (hYB.all hb1) (hYA.all hb1))
          rw [HYE.out] at SM
          (refine wpAnyL_ready (rs := [19]) (by kernel_rfl) (by simp) ?_; refine List.forall_mem_cons.2 ⟨stepL (o := { dst := some 111, op := Op.call { callee := Callee.value (Operand.func 12), args := #[Operand.tmp 105, Operand.tmp 110], argTypes := #[44, 44] }, type := 4, pos := "more.go:297", after := #[{ on := 13, ground := Ground.data }, { on := 18, ground := Ground.data }, { on := 8, ground := Ground.chain }, { on := 8, ground := Ground.guard }], guard := some (8, false) }) rfl (fun K hK => ?_), fun _ h => by cases h⟩; (try go_simp); (go_at_call 12; refine SM.out.mono ?_; rintro e w2 ⟨rfl, hb2'⟩; have hb2 := hb1.trans (hb2'.mono hb1.size)); go_wp2_with fail; refine hK.out _ _ (hS.out _ hb2) (fun hHeld => ?_); (clear hK K; (try simp only [Act.put, List.setIfInBounds_toArray, List.set_cons_zero, List.set_cons_succ])))
          (refine wpAnyLT_take (i := 20) (oi := { dst := some 112, op := Op.unOp UnOp.not 4 (Operand.tmp 111), type := 4, pos := "more.go:297", after := #[{ on := 19, ground := Ground.data }, { on := 8, ground := Ground.guard }], guard := some (8, false) }) (v := ?_) rfl (by kernel_rfl) (by kernel_rfl) (by kernel_rfl) (fun _ _ _ h => h) (Or.inl ⟨by rfl, ?_⟩) (by assumption) (by kernel_rfl) (by rfl) (by kernel_rfl) ?_; rotate_left; (focus (intro w hSw; (try dsimp only at hSw); go_simp; (try with_reducible rfl))); (try simp only [Act.put, List.setIfInBounds_toArray, List.set_cons_zero, List.set_cons_succ]))
          (refine wpAnyLT_take (i := 21) (oi := { dst := some 113, op := Op.pick (Operand.tmp 100) (Operand.const (Value.bool true)) (Operand.tmp 112), type := 4, pos := "more.go:297", after := #[{ on := 8, ground := Ground.data }, { on := 20, ground := Ground.data }, { on := 1, ground := Ground.guard }], guard := some (1, true) }) (v := ?_) rfl (by kernel_rfl) (by kernel_rfl) (by kernel_rfl) (fun _ _ _ h => h) (Or.inl ⟨by rfl, ?_⟩) (by assumption) (by kernel_rfl) (by rfl) (by kernel_rfl) ?_; rotate_left; (focus (intro w hSw; (try dsimp only at hSw); go_simp; (try with_reducible rfl))); (try simp only [Act.put, List.setIfInBounds_toArray, List.set_cons_zero, List.set_cons_succ]))
          (refine wpAnyLT_take (i := 22) (oi := { dst := some 114, op := Op.pick (Operand.tmp 93) (Operand.tmp 113) (Operand.const (Value.bool false)), type := 4, pos := "more.go:297", after := #[{ on := 1, ground := Ground.data }, { on := 21, ground := Ground.data }], guard := none }) (v := ?_) rfl (by kernel_rfl) (by kernel_rfl) (by kernel_rfl) (fun _ _ _ h => h) (Or.inl ⟨by rfl, ?_⟩) (by assumption) (by kernel_rfl) (by rfl) (by kernel_rfl) ?_; rotate_left; (focus (intro w hSw; (try dsimp only at hSw); go_simp; (try with_reducible rfl))); (try simp only [Act.put, List.setIfInBounds_toArray, List.set_cons_zero, List.set_cons_succ]))
          refine wpAnyL_done (by kernel_rfl) ?_ _
          have hst2 : newly f.dn g.dn (k + 1) = newly f.dn g.dn k := by rw [hst]; rfl
          have hbn := hb.trans (hb2.mono hb.size)
          clear SM hHeld hS
          go_wp2
          go_roundw
          case rel => exact ⟨k + 1, by omega, by go_num, by rw [hst2], hbn⟩
          case measure => simp [intOf]; omega
      · obtain rfl : k = f.dn.length := by omega
        have x0 := (kX6.all hb).cell 0
        have hBn := hB6.trans (hb.mono hB6.size)
        have kr2 : newly f.dn g.dn f.dn.length = 0 ∨ (newly f.dn g.dn f.dn.length = 1 ∧ x.kind = 3) := KRS.out.2
        rcases kr2 with e0 | ⟨e1, e3⟩
        · rw [e0]
          go_wp2
          go_ret
          exact ⟨rfl, hBn⟩
        · rw [e1]
          rw [e3] at x0
          go_wp2
          go_ret
          exact ⟨rfl, hBn⟩
  · have hx : (n != 0) = true := by simpa using hn
    clear hn
    go_wp2_with fail
    refine (farmed_any w3).mono ?_
    rintro e w4 ⟨rfl, hb4⟩
    go_wp2
    go_ret
    exact ⟨rfl, hB.trans (hb4.mono hB.size)⟩
end Go.Proofs.Ytkfmkemjoddinaa
