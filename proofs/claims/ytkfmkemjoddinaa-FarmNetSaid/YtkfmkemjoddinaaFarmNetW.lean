/- ropewalklaw.FarmNet: it answers true. -/
import Derived.Test.YtkfmkemjoddinaaFarmA
import Derived.Test.YtkfmkemjoddinaaFarmNetD
import Derived.Test.YtkfmkemjoddinaaSameF
import Derived.Test.YtkfmkemjoddinaaAt
set_option linter.all false
namespace Go.Proofs.Ytkfmkemjoddinaa
open Go.RowKit
set_option maxRecDepth 100000

theorem FrM.At.net {w : World} {f g : FrM} (h : f.At w w.heap.size) (hg : g.At w w.heap.size) : FrM.At w w.heap.size { g with nt := f.nt, na := f.na, nc := f.nc } :=
  ⟨hg.ps, hg.pl, hg.dn, hg.hv, hg.gs, hg.wk, h.nt, h.each, ⟨hg.big.1, hg.big.2.1, hg.big.2.2.1, hg.big.2.2.2.1, hg.big.2.2.2.2.1, hg.big.2.2.2.2.2.1, h.big.2.2.2.2.2.2⟩⟩
set_option maxHeartbeats 40000000 in
theorem farmNet_any (f : FrM) (k : Int) (w : World) (h : f.At w w.heap.size) (hk0 : -9223372036854775808 ≤ k) (hk1 : k ≤ 9223372036854775807) :
    Calls Try.prog 4 #[.agg #[.slice f.pa f.ps.length f.pc, .slice f.la f.pl.length f.lc, .int .i64 f.now, .slice f.da f.dn.length f.dc, .slice f.ha f.hv.length f.hc, .slice f.ga f.gs.length f.gc, .slice f.wa f.wk.length f.wc, .slice f.na f.nt.length f.nc], .int .i64 k] w fun e w' => e = .returned (.bool true) ∧ Below w.heap.size w w' := by
  have kF := Blk.new w 29 #[.slice f.pa f.ps.length f.pc, .slice f.la f.pl.length f.lc, .int .i64 f.now, .slice f.da f.dn.length f.dc, .slice f.ha f.hv.length f.hc, .slice f.ga f.gs.length f.gc, .slice f.wa f.wk.length f.wc, .slice f.na f.nt.length f.nc]
  have hB : Below w.heap.size w (w.alloc (.cells #[.slice f.pa f.ps.length f.pc, .slice f.la f.pl.length f.lc, .int .i64 f.now, .slice f.da f.dn.length f.dc, .slice f.ha f.hv.length f.hc, .slice f.ga f.gs.length f.gc, .slice f.wa f.wk.length f.wc, .slice f.na f.nt.length f.nc] 29)) := by (repeat' (first | exact Below.refl _ _ | assumption | refine Below.setCell ?_ (by first | omega | exact Below.size (by assumption) | (simp; done) | (simp; omega)) _ | refine Below.alloc ?_ (by first | omega | exact Below.size (by assumption) | (simp; done) | (simp; omega)) _ | refine Below.drew ?_ | refine below_drewN ?_ _))
  replace h := h.all hB
  go_enter Try.func4, Try.ntmps4
  go_upto_region 1 with (fail)
  obtain ⟨W0, hW⟩ : ∃ W', W' = w.alloc (.cells #[.slice f.pa f.ps.length f.pc, .slice f.la f.pl.length f.lc, .int .i64 f.now, .slice f.da f.dn.length f.dc, .slice f.ha f.hv.length f.hc, .slice f.ga f.gs.length f.gc, .slice f.wa f.wk.length f.wc, .slice f.na f.nt.length f.nc] 29) := ⟨_, rfl⟩
  obtain ⟨gF, hgF⟩ : ∃ g, g = w.heap.size := ⟨_, rfl⟩
  rw [← hgF] at kF ⊢
  rw [← hW] at kF h hB ⊢
  clear hW hgF
  go_wp2_with fail
  refine (farmed_any W0).mono ?_
  rintro e W1 ⟨rfl, hb1⟩
  replace kF := kF.all hb1
  replace h := h.all hb1
  replace hB := hB.trans (hb1.mono hB.size)
  clear hb1
  have CK := Lib.hid (farmCheck_any f W1 h)
  obtain ⟨n, hn⟩ : ∃ n, ckFarm f.er = n := ⟨_, rfl⟩
  rw [hn] at CK
  have HN := Lib.hid hn
  clear hn
  (have q0 := (kF).cell 0; have q1 := (kF).cell 1; have q2 := (kF).cell 2; have q3 := (kF).cell 3; have q4 := (kF).cell 4; have q5 := (kF).cell 5; have q6 := (kF).cell 6; have q7 := (kF).cell 7)
  go_wp2_with fail
  refine CK.out.mono ?_
  rintro e W2 ⟨rfl, hb2⟩
  replace kF := kF.all hb2
  replace h := h.all hb2
  replace hB := hB.trans (hb2.mono hB.size)
  clear hb2 CK
  (clear q0 q1 q2 q3 q4 q5 q6 q7)
  by_cases hn0 : n = 0
  · subst hn0
    have q7 := kF.cell 7
    by_cases hl0 : f.nt.length = 0
    · have t1 : ((f.nt.length : Int) == 0) = true := beq_iff_eq.2 (by omega)
      clear hl0
      go_wp2_with fail
      refine (farmed_any W2).mono ?_
      rintro e W3 ⟨rfl, hb3⟩
      have hBx := hB.trans (hb3.mono hB.size)
      go_wp2
      go_ret
      exact ⟨rfl, hBx⟩
    · have t1 : ((f.nt.length : Int) == 0) = false := beq_eq_false_iff_ne.2 (by omega)
      have hF := fine_of HN.out
      have h20 : f.nt.length ≤ 20 := by have := hF.ln; simpa [FrM.er] using this
      have HF := Lib.hid hF
      clear hF HN
      have hk2 := Int.emod_nonneg k (show (f.nt.length : Int) ≠ 0 by omega)
      have hk3 := Int.emod_lt_of_pos k (show 0 < (f.nt.length : Int) by omega)
      obtain ⟨m, hm⟩ : ∃ m : Nat, k % (f.nt.length : Int) = m := ⟨(k % (f.nt.length : Int)).toNat, (Int.toNat_of_nonneg hk2).symm⟩
      rw [hm] at hk3
      have hml : m < f.nt.length := by omega
      clear hk2 hk3
      have AT := Lib.hid (at_any k f.nt.length W2 (by omega) (by omega) hk0 hk1)
      rw [hm] at AT
      clear hm hk0 hk1 hl0
      go_wp2_with fail
      refine AT.out.mono ?_
      rintro e w' ⟨rfl, hw'⟩
      subst w'
      clear AT
      have HML : Hid (m < f.er.nt.length) := by show m < (f.nt.map MsM.er).length; rw [List.length_map]; exact hml
      have HLN : Hid (f.er.nt.length = f.nt.length) := by show (f.nt.map MsM.er).length = _; rw [List.length_map]
      clear q7
      have hM := Below.refl W2.heap.size W2
      have h0 := h
      have hB0 := hB
      have gFb := kF.lt
      have HD := Lib.hid (do_lose HF.out HML.out)
      (have DO := Lib.hid (do_any f ⟨4, 0, m⟩ W2 h); rw [HD.out] at DO; (have q0 := (kF).cell 0; have q1 := (kF).cell 1; have q2 := (kF).cell 2; have q3 := (kF).cell 3; have q4 := (kF).cell 4; have q5 := (kF).cell 5; have q6 := (kF).cell 6; have q7 := (kF).cell 7); go_wp2_with fail; refine DO.out.mono ?_; rintro e w1 ⟨l, rfl, hO, HE, hb1⟩; dsimp only at HE ⊢; (clear q0 q1 q2 q3 q4 q5 q6 q7); clear DO HD)
      (go_upto_region 5 with (fail); have hs := hb1.alloc hb1.size (.cells #[.slice l.pa l.ps.length l.pc, .slice l.la l.pl.length l.lc, .int .i64 l.now, .slice l.da l.dn.length l.dc, .slice l.ha l.hv.length l.hc, .slice l.ga l.gs.length l.gc, .slice l.wa l.wk.length l.wc, .slice l.na l.nt.length l.nc] 29); have kL := Blk.new w1 29 #[.slice l.pa l.ps.length l.pc, .slice l.la l.pl.length l.lc, .int .i64 l.now, .slice l.da l.dn.length l.dc, .slice l.ha l.hv.length l.hc, .slice l.ga l.gs.length l.gc, .slice l.wa l.wk.length l.wc, .slice l.na l.nt.length l.nc]; have oL := (hO.mono hB.size).alloc (.cells #[.slice l.pa l.ps.length l.pc, .slice l.la l.pl.length l.lc, .int .i64 l.now, .slice l.da l.dn.length l.dc, .slice l.ha l.hv.length l.hc, .slice l.ga l.gs.length l.gc, .slice l.wa l.wk.length l.wc, .slice l.na l.nt.length l.nc] 29); have eL := Lib.hid HE; have kNew := kL; have oNew := oL; clear kL oL; have hz := Nat.le_trans hM.size hb1.size; have hzc := hb1.size; ((try replace kF := kF.all hs); (try replace h := h.all hs); (try replace kL := kL.all hs); (try replace oL := oL.all hs); (try replace kD := kD.all hs); (try replace oD := oD.all hs); (try replace kX := kX.all hs); (try replace oX := oX.all hs); (try replace kO := kO.all hs); (try replace oO := oO.all hs); (try replace kT := kT.all hs); (try replace oT := oT.all hs); (try replace hM := hM.trans (hs.mono hM.size)); replace hB := hB.trans (hs.mono hB.size)); obtain ⟨gL, hg⟩ : ∃ g, g = w1.heap.size := ⟨_, rfl⟩; rw [← hg] at kNew hz hzc ⊢; obtain ⟨W4, hw⟩ : ∃ y, y = w1.alloc (.cells #[.slice l.pa l.ps.length l.pc, .slice l.la l.pl.length l.lc, .int .i64 l.now, .slice l.da l.dn.length l.dc, .slice l.ha l.hv.length l.hc, .slice l.ga l.gs.length l.gc, .slice l.wa l.wk.length l.wc, .slice l.na l.nt.length l.nc] 29) := ⟨_, rfl⟩; rw [← hw] at kNew oNew; ((try rw [← hw] at kF); (try rw [← hw] at h); (try rw [← hw] at kL); (try rw [← hw] at oL); (try rw [← hw] at kD); (try rw [← hw] at oD); (try rw [← hw] at kX); (try rw [← hw] at oX); (try rw [← hw] at kO); (try rw [← hw] at oO); (try rw [← hw] at kT); (try rw [← hw] at oT); (try rw [← hw] at hM); rw [← hw] at hB ⊢; clear hw); have kL := kNew; have oL := oNew; have gLb := hz; have gLc := hzc; clear kNew oNew hg hs hO hb1 HE hz hzc)
      have hll : l.nt.length = f.nt.length - 1 := by
        have := congrArg (fun f : Frm => f.nt.length) eL.out
        simp only [FrM.er, List.length_map] at this
        rw [this, List.length_eraseIdx_of_lt (by rw [List.length_map]; exact hml), List.length_map]
      have t2 : ((l.nt.length : Int) != (f.nt.length : Int) - 1) = false := by rw [hll]; simp; omega
      have hw1 : IntKind.i64.wrap ((f.nt.length : Int) - 1) = (f.nt.length : Int) - 1 := by rw [IntKind.wrap_i64]; omega
      clear hll
      have q7 := kF.cell 7
      have r7 := kL.cell 7
      go_upto_region 7 with (fail)
      clear r7 t2 hw1
      have r7 := kL.cell 7
      have z7 := kL.frozen 7
      go_upto_region 8 with (fail)
      have hne : gF ≠ gL := by omega
      have kL2 := kL.set_ 7 (.slice f.na f.nt.length f.nc)
      simp only [List.setIfInBounds_toArray, List.set_cons_zero, List.set_cons_succ] at kL2
      have oL2 := oL.box (j := 7) kL (.slice f.na f.nt.length f.nc)
      replace kF := kF.far (p := ⟨gL, 7, none⟩) hne (.slice f.na f.nt.length f.nc)
      replace hM := hM.setCell (p := ⟨gL, 7, none⟩) gLb (.slice f.na f.nt.length f.nc)
      replace hB := hB.setCell (p := ⟨gL, 7, none⟩) (Nat.le_trans hB0.size gLb) (.slice f.na f.nt.length f.nc)
      replace h := h0.keep hM hM.size
      have aL := FrM.At.net h oL2.at_
      obtain ⟨l', hl'⟩ : ∃ l' : FrM, l' = { l with nt := f.nt, na := f.na, nc := f.nc } := ⟨_, rfl⟩
      have kL3 : Blk (W4.setCell ⟨gL, 7, none⟩ (.slice f.na f.nt.length f.nc)) gL 29 #[.slice l'.pa l'.ps.length l'.pc, .slice l'.la l'.pl.length l'.lc, .int .i64 l'.now, .slice l'.da l'.dn.length l'.dc, .slice l'.ha l'.hv.length l'.hc, .slice l'.ga l'.gs.length l'.gc, .slice l'.wa l'.wk.length l'.wc, .slice l'.na l'.nt.length l'.nc] := by subst hl'; exact kL2
      rw [← hl'] at aL
      have eL2 : l'.er = f.er := by
        rw [hl']
        have := eL.out
        simp only [FrM.er, Frm.mk.injEq] at this ⊢
        exact ⟨this.1, this.2.1, this.2.2.1, this.2.2.2.1, this.2.2.2.2.1, this.2.2.2.2.2.1, this.2.2.2.2.2.2.1, trivial⟩
      have EL2 := Lib.hid eL2
      obtain ⟨W5, hw⟩ : ∃ y, y = W4.setCell ⟨gL, 7, none⟩ (.slice f.na f.nt.length f.nc) := ⟨_, rfl⟩
      rw [← hw] at kF hM hB h aL kL3 ⊢
      clear hw kL kL2 oL oL2 hl' eL eL2 q7 r7 z7 hne
      have kL := kL3
      clear kL3
      (have SF := Lib.hid (sameFarm_same l' f W5 aL h EL2.out); (have q0 := (kL).cell 0; have q1 := (kL).cell 1; have q2 := (kL).cell 2; have q3 := (kL).cell 3; have q4 := (kL).cell 4; have q5 := (kL).cell 5; have q6 := (kL).cell 6; have q7 := (kL).cell 7); (have r0 := (kF).cell 0; have r1 := (kF).cell 1; have r2 := (kF).cell 2; have r3 := (kF).cell 3; have r4 := (kF).cell 4; have r5 := (kF).cell 5; have r6 := (kF).cell 6; have r7 := (kF).cell 7); go_wp2_with fail; refine SF.out.mono ?_; rintro e W6 ⟨rfl, hb1⟩; (clear q0 q1 q2 q3 q4 q5 q6 q7); clear SF r0 r1 r2 r3 r4 r5 r6 r7; ((try replace kF := kF.all hb1); (try replace h := h.all hb1); (try replace kL := kL.all hb1); (try replace oL := oL.all hb1); (try replace kD := kD.all hb1); (try replace oD := oD.all hb1); (try replace kX := kX.all hb1); (try replace oX := oX.all hb1); (try replace kO := kO.all hb1); (try replace oO := oO.all hb1); (try replace kT := kT.all hb1); (try replace oT := oT.all hb1); (try replace hM := hM.trans (hb1.mono hM.size)); replace hB := hB.trans (hb1.mono hB.size)); clear hb1)
      clear kL aL EL2 gLb
      by_cases h20 : f.nt.length = 20
      · have t5 : ((f.nt.length : Int) == 20) = true := by rw [h20]; rfl
        have HD := Lib.hid (do_full HF.out HML.out (HLN.out.trans h20))
        clear h20 hml t1
        (have DO := Lib.hid (do_any f ⟨5, 0, m⟩ W6 h); rw [HD.out] at DO; (have q0 := (kF).cell 0; have q1 := (kF).cell 1; have q2 := (kF).cell 2; have q3 := (kF).cell 3; have q4 := (kF).cell 4; have q5 := (kF).cell 5; have q6 := (kF).cell 6; have q7 := (kF).cell 7); go_wp2_with fail; refine DO.out.mono ?_; rintro e w1 ⟨d, rfl, hO, HE, hb1⟩; dsimp only at HE ⊢; (clear q0 q1 q2 q3 q4 q5 q6 q7); clear DO HD)
        (go_upto_region 11 with (fail); have hs := hb1.alloc hb1.size (.cells #[.slice d.pa d.ps.length d.pc, .slice d.la d.pl.length d.lc, .int .i64 d.now, .slice d.da d.dn.length d.dc, .slice d.ha d.hv.length d.hc, .slice d.ga d.gs.length d.gc, .slice d.wa d.wk.length d.wc, .slice d.na d.nt.length d.nc] 29); have kD := Blk.new w1 29 #[.slice d.pa d.ps.length d.pc, .slice d.la d.pl.length d.lc, .int .i64 d.now, .slice d.da d.dn.length d.dc, .slice d.ha d.hv.length d.hc, .slice d.ga d.gs.length d.gc, .slice d.wa d.wk.length d.wc, .slice d.na d.nt.length d.nc]; have oD := (hO.mono hB.size).alloc (.cells #[.slice d.pa d.ps.length d.pc, .slice d.la d.pl.length d.lc, .int .i64 d.now, .slice d.da d.dn.length d.dc, .slice d.ha d.hv.length d.hc, .slice d.ga d.gs.length d.gc, .slice d.wa d.wk.length d.wc, .slice d.na d.nt.length d.nc] 29); have eD := Lib.hid HE; have kNew := kD; have oNew := oD; clear kD oD; have hz := Nat.le_trans hM.size hb1.size; have hzc := hb1.size; ((try replace kF := kF.all hs); (try replace h := h.all hs); (try replace kL := kL.all hs); (try replace oL := oL.all hs); (try replace kD := kD.all hs); (try replace oD := oD.all hs); (try replace kX := kX.all hs); (try replace oX := oX.all hs); (try replace kO := kO.all hs); (try replace oO := oO.all hs); (try replace kT := kT.all hs); (try replace oT := oT.all hs); (try replace hM := hM.trans (hs.mono hM.size)); replace hB := hB.trans (hs.mono hB.size)); obtain ⟨gD, hg⟩ : ∃ g, g = w1.heap.size := ⟨_, rfl⟩; rw [← hg] at kNew hz hzc ⊢; obtain ⟨W7, hw⟩ : ∃ y, y = w1.alloc (.cells #[.slice d.pa d.ps.length d.pc, .slice d.la d.pl.length d.lc, .int .i64 d.now, .slice d.da d.dn.length d.dc, .slice d.ha d.hv.length d.hc, .slice d.ga d.gs.length d.gc, .slice d.wa d.wk.length d.wc, .slice d.na d.nt.length d.nc] 29) := ⟨_, rfl⟩; rw [← hw] at kNew oNew; ((try rw [← hw] at kF); (try rw [← hw] at h); (try rw [← hw] at kL); (try rw [← hw] at oL); (try rw [← hw] at kD); (try rw [← hw] at oD); (try rw [← hw] at kX); (try rw [← hw] at oX); (try rw [← hw] at kO); (try rw [← hw] at oO); (try rw [← hw] at kT); (try rw [← hw] at oT); (try rw [← hw] at hM); rw [← hw] at hB ⊢; clear hw); have kD := kNew; have oD := oNew; have gDb := hz; have gDc := hzc; clear kNew oNew hg hs hO hb1 HE hz hzc)
        have q7 := kF.cell 7
        clear kD oD eD
        go_wp2
        go_ret
        exact ⟨rfl, hB⟩
      · have H20 : Hid (f.er.nt.length ≠ 20) := by show _ ≠ _; rw [HLN.out]; exact h20
        have HD := Lib.hid (do_twice HF.out HML.out H20.out)
        (have DO := Lib.hid (do_any f ⟨5, 0, m⟩ W6 h); rw [HD.out] at DO; (have q0 := (kF).cell 0; have q1 := (kF).cell 1; have q2 := (kF).cell 2; have q3 := (kF).cell 3; have q4 := (kF).cell 4; have q5 := (kF).cell 5; have q6 := (kF).cell 6; have q7 := (kF).cell 7); go_wp2_with fail; refine DO.out.mono ?_; rintro e w1 ⟨d, rfl, hO, HE, hb1⟩; dsimp only at HE ⊢; (clear q0 q1 q2 q3 q4 q5 q6 q7); clear DO HD)
        (go_upto_region 11 with (fail); have hs := hb1.alloc hb1.size (.cells #[.slice d.pa d.ps.length d.pc, .slice d.la d.pl.length d.lc, .int .i64 d.now, .slice d.da d.dn.length d.dc, .slice d.ha d.hv.length d.hc, .slice d.ga d.gs.length d.gc, .slice d.wa d.wk.length d.wc, .slice d.na d.nt.length d.nc] 29); have kD := Blk.new w1 29 #[.slice d.pa d.ps.length d.pc, .slice d.la d.pl.length d.lc, .int .i64 d.now, .slice d.da d.dn.length d.dc, .slice d.ha d.hv.length d.hc, .slice d.ga d.gs.length d.gc, .slice d.wa d.wk.length d.wc, .slice d.na d.nt.length d.nc]; have oD := (hO.mono hB.size).alloc (.cells #[.slice d.pa d.ps.length d.pc, .slice d.la d.pl.length d.lc, .int .i64 d.now, .slice d.da d.dn.length d.dc, .slice d.ha d.hv.length d.hc, .slice d.ga d.gs.length d.gc, .slice d.wa d.wk.length d.wc, .slice d.na d.nt.length d.nc] 29); have eD := Lib.hid HE; have kNew := kD; have oNew := oD; clear kD oD; have hz := Nat.le_trans hM.size hb1.size; have hzc := hb1.size; ((try replace kF := kF.all hs); (try replace h := h.all hs); (try replace kL := kL.all hs); (try replace oL := oL.all hs); (try replace kD := kD.all hs); (try replace oD := oD.all hs); (try replace kX := kX.all hs); (try replace oX := oX.all hs); (try replace kO := kO.all hs); (try replace oO := oO.all hs); (try replace kT := kT.all hs); (try replace oT := oT.all hs); (try replace hM := hM.trans (hs.mono hM.size)); replace hB := hB.trans (hs.mono hB.size)); obtain ⟨gD, hg⟩ : ∃ g, g = w1.heap.size := ⟨_, rfl⟩; rw [← hg] at kNew hz hzc ⊢; obtain ⟨W7, hw⟩ : ∃ y, y = w1.alloc (.cells #[.slice d.pa d.ps.length d.pc, .slice d.la d.pl.length d.lc, .int .i64 d.now, .slice d.da d.dn.length d.dc, .slice d.ha d.hv.length d.hc, .slice d.ga d.gs.length d.gc, .slice d.wa d.wk.length d.wc, .slice d.na d.nt.length d.nc] 29) := ⟨_, rfl⟩; rw [← hw] at kNew oNew; ((try rw [← hw] at kF); (try rw [← hw] at h); (try rw [← hw] at kL); (try rw [← hw] at oL); (try rw [← hw] at kD); (try rw [← hw] at oD); (try rw [← hw] at kX); (try rw [← hw] at oX); (try rw [← hw] at kO); (try rw [← hw] at oO); (try rw [← hw] at kT); (try rw [← hw] at oT); (try rw [← hw] at hM); rw [← hw] at hB ⊢; clear hw); have kD := kNew; have oD := oNew; have gDb := hz; have gDc := hzc; clear kNew oNew hg hs hO hb1 HE hz hzc)
        go_upto_region 13 with (fail)
        have s7 := kF.cell 7
        have HD : Hid (doP d.er ⟨4, 0, (f.nt.length : Int)⟩ = (f.er, 0)) := by
          have := twice_back HF.out HML.out H20.out
          rw [HLN.out] at this
          show _ = _
          rw [eD.out]
          exact this
        (have DO := Lib.hid (do_any d ⟨4, 0, (f.nt.length : Int)⟩ W7 oD.at_); rw [HD.out] at DO; (have q0 := (kD).cell 0; have q1 := (kD).cell 1; have q2 := (kD).cell 2; have q3 := (kD).cell 3; have q4 := (kD).cell 4; have q5 := (kD).cell 5; have q6 := (kD).cell 6; have q7 := (kD).cell 7); go_wp2_with fail; refine DO.out.mono ?_; rintro e w1 ⟨x, rfl, hO, HE, hb1⟩; dsimp only at HE ⊢; (clear q0 q1 q2 q3 q4 q5 q6 q7); clear DO HD)
        clear s7
        (go_upto_region 14 with (fail); have hs := hb1.alloc hb1.size (.cells #[.slice x.pa x.ps.length x.pc, .slice x.la x.pl.length x.lc, .int .i64 x.now, .slice x.da x.dn.length x.dc, .slice x.ha x.hv.length x.hc, .slice x.ga x.gs.length x.gc, .slice x.wa x.wk.length x.wc, .slice x.na x.nt.length x.nc] 29); have kX := Blk.new w1 29 #[.slice x.pa x.ps.length x.pc, .slice x.la x.pl.length x.lc, .int .i64 x.now, .slice x.da x.dn.length x.dc, .slice x.ha x.hv.length x.hc, .slice x.ga x.gs.length x.gc, .slice x.wa x.wk.length x.wc, .slice x.na x.nt.length x.nc]; have oX := (hO.mono hB.size).alloc (.cells #[.slice x.pa x.ps.length x.pc, .slice x.la x.pl.length x.lc, .int .i64 x.now, .slice x.da x.dn.length x.dc, .slice x.ha x.hv.length x.hc, .slice x.ga x.gs.length x.gc, .slice x.wa x.wk.length x.wc, .slice x.na x.nt.length x.nc] 29); have eX := Lib.hid HE; have kNew := kX; have oNew := oX; clear kX oX; have hz := Nat.le_trans hM.size hb1.size; have hzc := hb1.size; ((try replace kF := kF.all hs); (try replace h := h.all hs); (try replace kL := kL.all hs); (try replace oL := oL.all hs); (try replace kD := kD.all hs); (try replace oD := oD.all hs); (try replace kX := kX.all hs); (try replace oX := oX.all hs); (try replace kO := kO.all hs); (try replace oO := oO.all hs); (try replace kT := kT.all hs); (try replace oT := oT.all hs); (try replace hM := hM.trans (hs.mono hM.size)); replace hB := hB.trans (hs.mono hB.size)); obtain ⟨gX, hg⟩ : ∃ g, g = w1.heap.size := ⟨_, rfl⟩; rw [← hg] at kNew hz hzc ⊢; obtain ⟨W8, hw⟩ : ∃ y, y = w1.alloc (.cells #[.slice x.pa x.ps.length x.pc, .slice x.la x.pl.length x.lc, .int .i64 x.now, .slice x.da x.dn.length x.dc, .slice x.ha x.hv.length x.hc, .slice x.ga x.gs.length x.gc, .slice x.wa x.wk.length x.wc, .slice x.na x.nt.length x.nc] 29) := ⟨_, rfl⟩; rw [← hw] at kNew oNew; ((try rw [← hw] at kF); (try rw [← hw] at h); (try rw [← hw] at kL); (try rw [← hw] at oL); (try rw [← hw] at kD); (try rw [← hw] at oD); (try rw [← hw] at kX); (try rw [← hw] at oX); (try rw [← hw] at kO); (try rw [← hw] at oO); (try rw [← hw] at kT); (try rw [← hw] at oT); (try rw [← hw] at hM); rw [← hw] at hB ⊢; clear hw); have kX := kNew; have oX := oNew; have gXb := hz; have gXc := hzc; clear kNew oNew hg hs hO hb1 HE hz hzc)
        (have SF := Lib.hid (sameFarm_same x f W8 oX.at_ h eX.out); (have q0 := (kX).cell 0; have q1 := (kX).cell 1; have q2 := (kX).cell 2; have q3 := (kX).cell 3; have q4 := (kX).cell 4; have q5 := (kX).cell 5; have q6 := (kX).cell 6; have q7 := (kX).cell 7); (have r0 := (kF).cell 0; have r1 := (kF).cell 1; have r2 := (kF).cell 2; have r3 := (kF).cell 3; have r4 := (kF).cell 4; have r5 := (kF).cell 5; have r6 := (kF).cell 6; have r7 := (kF).cell 7); go_wp2_with fail; refine SF.out.mono ?_; rintro e W9 ⟨rfl, hb1⟩; (clear q0 q1 q2 q3 q4 q5 q6 q7); clear SF r0 r1 r2 r3 r4 r5 r6 r7; ((try replace kF := kF.all hb1); (try replace h := h.all hb1); (try replace kL := kL.all hb1); (try replace oL := oL.all hb1); (try replace kD := kD.all hb1); (try replace oD := oD.all hb1); (try replace kX := kX.all hb1); (try replace oX := oX.all hb1); (try replace kO := kO.all hb1); (try replace oO := oO.all hb1); (try replace kT := kT.all hb1); (try replace oT := oT.all hb1); (try replace hM := hM.trans (hb1.mono hM.size)); replace hB := hB.trans (hb1.mono hB.size)); clear hb1)
        clear kX oX eX gXb
        obtain ⟨y, hy⟩ : ∃ y, f.nt[m]? = some y := ⟨_, List.getElem?_eq_getElem hml⟩
        obtain ⟨b, off, ena, bl, c0, c1, c2, c3, c4⟩ := ms_get h.nt hy
        have HY : Hid (f.er.nt.getD m .none_ = y.er) := getD_of _ (by show (f.nt.map MsM.er)[m]? = _; rw [List.getElem?_map, hy]; rfl)
        have kFn := kF
        rw [ena] at kFn
        have q7 := kFn.cell 7
        have i1 : (m : Int) < (f.nt.length : Int) := by omega
        clear hy ena kFn c1 c2 c3 c4
        go_upto_region 16 with (fail)
        by_cases hk2 : y.kind = 2
        · have t6 : (y.kind != 2) = false := by rw [hk2]; rfl
          have HK2 : Hid ((f.er.nt.getD m .none_).kind = 2) := by show _ = _; rw [HY.out]; exact hk2
          clear hk2
          go_upto_region 18 with (fail)
          clear q7 c0 bl t6 i1 HY
          have HD := Lib.hid (do_come HF.out HML.out)
          (have DO := Lib.hid (do_any f ⟨3, 0, m⟩ W9 h); rw [HD.out] at DO; (have q0 := (kF).cell 0; have q1 := (kF).cell 1; have q2 := (kF).cell 2; have q3 := (kF).cell 3; have q4 := (kF).cell 4; have q5 := (kF).cell 5; have q6 := (kF).cell 6; have q7 := (kF).cell 7); go_wp2_with fail; refine DO.out.mono ?_; rintro e w1 ⟨o, rfl, hO, HE, hb1⟩; dsimp only at HE ⊢; (clear q0 q1 q2 q3 q4 q5 q6 q7); clear DO HD)
          (go_upto_region 19 with (fail); have hs := hb1.alloc hb1.size (.cells #[.slice o.pa o.ps.length o.pc, .slice o.la o.pl.length o.lc, .int .i64 o.now, .slice o.da o.dn.length o.dc, .slice o.ha o.hv.length o.hc, .slice o.ga o.gs.length o.gc, .slice o.wa o.wk.length o.wc, .slice o.na o.nt.length o.nc] 29); have kO := Blk.new w1 29 #[.slice o.pa o.ps.length o.pc, .slice o.la o.pl.length o.lc, .int .i64 o.now, .slice o.da o.dn.length o.dc, .slice o.ha o.hv.length o.hc, .slice o.ga o.gs.length o.gc, .slice o.wa o.wk.length o.wc, .slice o.na o.nt.length o.nc]; have oO := (hO.mono hB.size).alloc (.cells #[.slice o.pa o.ps.length o.pc, .slice o.la o.pl.length o.lc, .int .i64 o.now, .slice o.da o.dn.length o.dc, .slice o.ha o.hv.length o.hc, .slice o.ga o.gs.length o.gc, .slice o.wa o.wk.length o.wc, .slice o.na o.nt.length o.nc] 29); have eO := Lib.hid HE; have kNew := kO; have oNew := oO; clear kO oO; have hz := Nat.le_trans hM.size hb1.size; have hzc := hb1.size; ((try replace kF := kF.all hs); (try replace h := h.all hs); (try replace kL := kL.all hs); (try replace oL := oL.all hs); (try replace kD := kD.all hs); (try replace oD := oD.all hs); (try replace kX := kX.all hs); (try replace oX := oX.all hs); (try replace kO := kO.all hs); (try replace oO := oO.all hs); (try replace kT := kT.all hs); (try replace oT := oT.all hs); (try replace hM := hM.trans (hs.mono hM.size)); replace hB := hB.trans (hs.mono hB.size)); obtain ⟨gO, hg⟩ : ∃ g, g = w1.heap.size := ⟨_, rfl⟩; rw [← hg] at kNew hz hzc ⊢; obtain ⟨W10, hw⟩ : ∃ y, y = w1.alloc (.cells #[.slice o.pa o.ps.length o.pc, .slice o.la o.pl.length o.lc, .int .i64 o.now, .slice o.da o.dn.length o.dc, .slice o.ha o.hv.length o.hc, .slice o.ga o.gs.length o.gc, .slice o.wa o.wk.length o.wc, .slice o.na o.nt.length o.nc] 29) := ⟨_, rfl⟩; rw [← hw] at kNew oNew; ((try rw [← hw] at kF); (try rw [← hw] at h); (try rw [← hw] at kL); (try rw [← hw] at oL); (try rw [← hw] at kD); (try rw [← hw] at oD); (try rw [← hw] at kX); (try rw [← hw] at oX); (try rw [← hw] at kO); (try rw [← hw] at oO); (try rw [← hw] at kT); (try rw [← hw] at oT); (try rw [← hw] at hM); rw [← hw] at hB ⊢; clear hw); have kO := kNew; have oO := oNew; have gOb := hz; have gOc := hzc; clear kNew oNew hg hs hO hb1 HE hz hzc)
          have HD : Hid (doP d.er ⟨3, 0, m⟩ = (arriveP (f.er.twice m) m, 0)) := by
            show _ = _
            rw [eD.out]
            exact do_come (twice_fine HF.out HML.out H20.out) (by unfold Frm.twice; have := HML.out; simp; omega)
          (have DO := Lib.hid (do_any d ⟨3, 0, m⟩ W10 oD.at_); rw [HD.out] at DO; (have q0 := (kD).cell 0; have q1 := (kD).cell 1; have q2 := (kD).cell 2; have q3 := (kD).cell 3; have q4 := (kD).cell 4; have q5 := (kD).cell 5; have q6 := (kD).cell 6; have q7 := (kD).cell 7); go_wp2_with fail; refine DO.out.mono ?_; rintro e w1 ⟨t, rfl, hO, HE, hb1⟩; dsimp only at HE ⊢; (clear q0 q1 q2 q3 q4 q5 q6 q7); clear DO HD)
          have hOlt := kO.lt
          (go_upto_region 20 with (fail); have hs := hb1.alloc hb1.size (.cells #[.slice t.pa t.ps.length t.pc, .slice t.la t.pl.length t.lc, .int .i64 t.now, .slice t.da t.dn.length t.dc, .slice t.ha t.hv.length t.hc, .slice t.ga t.gs.length t.gc, .slice t.wa t.wk.length t.wc, .slice t.na t.nt.length t.nc] 29); have kT := Blk.new w1 29 #[.slice t.pa t.ps.length t.pc, .slice t.la t.pl.length t.lc, .int .i64 t.now, .slice t.da t.dn.length t.dc, .slice t.ha t.hv.length t.hc, .slice t.ga t.gs.length t.gc, .slice t.wa t.wk.length t.wc, .slice t.na t.nt.length t.nc]; have oT := (hO.mono hB.size).alloc (.cells #[.slice t.pa t.ps.length t.pc, .slice t.la t.pl.length t.lc, .int .i64 t.now, .slice t.da t.dn.length t.dc, .slice t.ha t.hv.length t.hc, .slice t.ga t.gs.length t.gc, .slice t.wa t.wk.length t.wc, .slice t.na t.nt.length t.nc] 29); have eT := Lib.hid HE; have kNew := kT; have oNew := oT; clear kT oT; have hz := Nat.le_trans hM.size hb1.size; have hzc := hb1.size; ((try replace kF := kF.all hs); (try replace h := h.all hs); (try replace kL := kL.all hs); (try replace oL := oL.all hs); (try replace kD := kD.all hs); (try replace oD := oD.all hs); (try replace kX := kX.all hs); (try replace oX := oX.all hs); (try replace kO := kO.all hs); (try replace oO := oO.all hs); (try replace kT := kT.all hs); (try replace oT := oT.all hs); (try replace hM := hM.trans (hs.mono hM.size)); replace hB := hB.trans (hs.mono hB.size)); obtain ⟨gT, hg⟩ : ∃ g, g = w1.heap.size := ⟨_, rfl⟩; rw [← hg] at kNew hz hzc ⊢; obtain ⟨W11, hw⟩ : ∃ y, y = w1.alloc (.cells #[.slice t.pa t.ps.length t.pc, .slice t.la t.pl.length t.lc, .int .i64 t.now, .slice t.da t.dn.length t.dc, .slice t.ha t.hv.length t.hc, .slice t.ga t.gs.length t.gc, .slice t.wa t.wk.length t.wc, .slice t.na t.nt.length t.nc] 29) := ⟨_, rfl⟩; rw [← hw] at kNew oNew; ((try rw [← hw] at kF); (try rw [← hw] at h); (try rw [← hw] at kL); (try rw [← hw] at oL); (try rw [← hw] at kD); (try rw [← hw] at oD); (try rw [← hw] at kX); (try rw [← hw] at oX); (try rw [← hw] at kO); (try rw [← hw] at oO); (try rw [← hw] at kT); (try rw [← hw] at oT); (try rw [← hw] at hM); rw [← hw] at hB ⊢; clear hw); have kT := kNew; have oT := oNew; have gTb := hz; have gTc := hzc; clear kNew oNew hg hs hO hb1 HE hz hzc)
          clear kD oD eD gDb
          go_upto_region 22 with (fail)
          have hw1 : IntKind.i64.wrap ((f.nt.length : Int) - 1) = (f.nt.length : Int) - 1 := by rw [IntKind.wrap_i64]; omega
          have s7 := kF.cell 7
          have HD : Hid (doP t.er ⟨3, 0, (f.nt.length : Int) - 1⟩ = (arriveP f.er m, 0)) := by
            have := (come_twice HF.out HML.out H20.out HK2.out).2.2
            rw [HLN.out, show ((f.nt.length - 1 : Nat) : Int) = (f.nt.length : Int) - 1 by omega] at this
            show _ = _
            rw [eT.out]
            exact this
          (have DO := Lib.hid (do_any t ⟨3, 0, (f.nt.length : Int) - 1⟩ W11 oT.at_); rw [HD.out] at DO; (have q0 := (kT).cell 0; have q1 := (kT).cell 1; have q2 := (kT).cell 2; have q3 := (kT).cell 3; have q4 := (kT).cell 4; have q5 := (kT).cell 5; have q6 := (kT).cell 6; have q7 := (kT).cell 7); go_wp2_with fail; refine DO.out.mono ?_; rintro e w1 ⟨t2, rfl, hO, HE, hb1⟩; dsimp only at HE ⊢; (clear q0 q1 q2 q3 q4 q5 q6 q7); clear DO HD)
          clear s7 hw1
          have hE2 := Lib.hid HE
          have hO2 := hO.mono hB.size
          ((try replace kF := kF.all hb1); (try replace h := h.all hb1); (try replace kL := kL.all hb1); (try replace oL := oL.all hb1); (try replace kD := kD.all hb1); (try replace oD := oD.all hb1); (try replace kX := kX.all hb1); (try replace oX := oX.all hb1); (try replace kO := kO.all hb1); (try replace oO := oO.all hb1); (try replace kT := kT.all hb1); (try replace oT := oT.all hb1); (try replace hM := hM.trans (hb1.mono hM.size)); replace hB := hB.trans (hb1.mono hB.size))
          clear HE hO hb1 oT
          (have z0 := (kT).frozen 0; have z1 := (kT).frozen 1; have z2 := (kT).frozen 2; have z3 := (kT).frozen 3; have z4 := (kT).frozen 4; have z5 := (kT).frozen 5; have z6 := (kT).frozen 6; have z7 := (kT).frozen 7)
          (have r0 := (kT).cell 0; have r1 := (kT).cell 1; have r2 := (kT).cell 2; have r3 := (kT).cell 3; have r4 := (kT).cell 4; have r5 := (kT).cell 5; have r6 := (kT).cell 6; have r7 := (kT).cell 7)
          go_upto_region 23 with (fail)
          have hneT : gO ≠ gT := by omega
          have kO2 := kO.far8 hneT t2
          have kT2 := kT.put8 t2
          have oT2 := hO2.put8 kT t2
          have oO2 := oO.put8 kT t2
          have hB2 := below_put8 hB (Nat.le_trans hB0.size gTb) t2
          clear kF h kO kT oO hO2 hM h0 r0 r1 r2 r3 r4 r5 r6 r7 z0 z1 z2 z3 z4 z5 z6 z7 hB
          obtain ⟨W13, hw⟩ : ∃ y, y = ((((((((w1.setCell ⟨gT, 0, none⟩ (.slice t2.pa t2.ps.length t2.pc)).setCell ⟨gT, 1, none⟩ (.slice t2.la t2.pl.length t2.lc)).setCell ⟨gT, 2, none⟩ (.int .i64 t2.now)).setCell ⟨gT, 3, none⟩ (.slice t2.da t2.dn.length t2.dc)).setCell ⟨gT, 4, none⟩ (.slice t2.ha t2.hv.length t2.hc)).setCell ⟨gT, 5, none⟩ (.slice t2.ga t2.gs.length t2.gc)).setCell ⟨gT, 6, none⟩ (.slice t2.wa t2.wk.length t2.wc)).setCell ⟨gT, 7, none⟩ (.slice t2.na t2.nt.length t2.nc)) := ⟨_, rfl⟩
          rw [← hw] at kO2 kT2 oT2 oO2 hB2 ⊢
          clear hw
          have SF := Lib.hid (sameFarm_same o t2 W13 oO2.at_ oT2.at_ (eO.out.trans hE2.out.symm))
          (have q0 := (kO2).cell 0; have q1 := (kO2).cell 1; have q2 := (kO2).cell 2; have q3 := (kO2).cell 3; have q4 := (kO2).cell 4; have q5 := (kO2).cell 5; have q6 := (kO2).cell 6; have q7 := (kO2).cell 7)
          (have r0 := (kT2).cell 0; have r1 := (kT2).cell 1; have r2 := (kT2).cell 2; have r3 := (kT2).cell 3; have r4 := (kT2).cell 4; have r5 := (kT2).cell 5; have r6 := (kT2).cell 6; have r7 := (kT2).cell 7)
          go_wp2_with fail
          refine SF.out.mono ?_
          rintro e W14 ⟨rfl, hb1⟩
          have hBx := hB2.trans (hb1.mono hB2.size)
          clear SF
          go_wp2
          go_ret
          exact ⟨rfl, hBx⟩
        · have t6 : (y.kind != 2) = true := by simpa using hk2
          clear hk2
          go_wp2
          go_ret
          exact ⟨rfl, hB⟩
  · have t1 : (n != 0) = true := by simpa using hn0
    clear hn0
    go_wp2_with fail
    refine (farmed_any W2).mono ?_
    rintro e W3 ⟨rfl, hb3⟩
    have hBx := hB.trans (hb3.mono hB.size)
    go_wp2
    go_ret
    exact ⟨rfl, hBx⟩
end Go.Proofs.Ytkfmkemjoddinaa
