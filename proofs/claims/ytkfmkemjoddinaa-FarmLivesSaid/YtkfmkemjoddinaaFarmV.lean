/- farm.Outcome: what it answers. -/
import Derived.Test.YtkfmkemjoddinaaFarmK
import Derived.Test.YtkfmkemjoddinaaFmA
import Derived.Test.YtkfmkemjoddinaaCopyW
import Derived.Test.YtkfmkemjoddinaaJoinW
set_option linter.all false
namespace Go.Proofs.Ytkfmkemjoddinaa
open Go.RowKit

theorem outP_bad {f : Frm} (h : ckFarm f ≠ 0) : outP f = (.nil, ckFarm f) := if_pos h
set_option maxRecDepth 100000 in
set_option maxHeartbeats 20000000 in
theorem outcome_any (f : FrM) (w : World) (h : f.At w w.heap.size) :
    Calls Try.prog 19 #[.agg #[.slice f.pa f.ps.length f.pc, .slice f.la f.pl.length f.lc, .int .i64 f.now, .slice f.da f.dn.length f.dc, .slice f.ha f.hv.length f.hc, .slice f.ga f.gs.length f.gc, .slice f.wa f.wk.length f.wc, .slice f.na f.nt.length f.nc]] w (JoinIs w (outP f.er)) := by
  have kF := (Blk.new w 29 #[.slice f.pa f.ps.length f.pc, .slice f.la f.pl.length f.lc, .int .i64 f.now, .slice f.da f.dn.length f.dc, .slice f.ha f.hv.length f.hc, .slice f.ga f.gs.length f.gc, .slice f.wa f.wk.length f.wc, .slice f.na f.nt.length f.nc]).alloc (.cells #[.slice none 0 0, .slice none 0 0] 44)
  have kR := Blk.new' (w.alloc (.cells #[.slice f.pa f.ps.length f.pc, .slice f.la f.pl.length f.lc, .int .i64 f.now, .slice f.da f.dn.length f.dc, .slice f.ha f.hv.length f.hc, .slice f.ga f.gs.length f.gc, .slice f.wa f.wk.length f.wc, .slice f.na f.nt.length f.nc] 29)) 44 #[.slice none 0 0, .slice none 0 0] (g := w.heap.size + 1) (by simp)
  have hB : Below w.heap.size w ((w.alloc (.cells #[.slice f.pa f.ps.length f.pc, .slice f.la f.pl.length f.lc, .int .i64 f.now, .slice f.da f.dn.length f.dc, .slice f.ha f.hv.length f.hc, .slice f.ga f.gs.length f.gc, .slice f.wa f.wk.length f.wc, .slice f.na f.nt.length f.nc] 29)).alloc (.cells #[.slice none 0 0, .slice none 0 0] 44)) := by (repeat' (first | exact Below.refl _ _ | assumption | refine Below.setCell ?_ (by first | omega | exact Below.size (by assumption) | (simp; done) | (simp; omega)) _ | refine Below.alloc ?_ (by first | omega | exact Below.size (by assumption) | (simp; done) | (simp; omega)) _ | refine Below.drew ?_ | refine below_drewN ?_ _))
  replace h := h.all hB
  go_enter Try.func19, Try.ntmps19
  go_upto_region 1 with (fail)
  obtain ⟨W, hW⟩ : ∃ W', W' = (w.alloc (.cells #[.slice f.pa f.ps.length f.pc, .slice f.la f.pl.length f.lc, .int .i64 f.now, .slice f.da f.dn.length f.dc, .slice f.ha f.hv.length f.hc, .slice f.ga f.gs.length f.gc, .slice f.wa f.wk.length f.wc, .slice f.na f.nt.length f.nc] 29)).alloc (.cells #[.slice none 0 0, .slice none 0 0] 44) := ⟨_, rfl⟩
  obtain ⟨gR, hgR⟩ : ∃ g, g = w.heap.size + 1 := ⟨_, rfl⟩
  obtain ⟨gF, hgF⟩ : ∃ g, g = w.heap.size := ⟨_, rfl⟩
  have hgR1 : w.heap.size ≤ gR := by omega
  rw [← hgR] at kR ⊢
  rw [← hgF] at kF ⊢
  rw [← hW] at kF kR h hB ⊢
  clear hW hgF hgR
  have c0 := kF.cell 0
  have c1 := kF.cell 1
  have c2 := kF.cell 2
  have c3 := kF.cell 3
  have c4 := kF.cell 4
  have c5 := kF.cell 5
  have c6 := kF.cell 6
  have c7 := kF.cell 7
  go_wp2_with fail
  refine (farmCheck_any f W h).mono ?_
  rintro e w1 ⟨rfl, hb1⟩
  replace kF := kF.all hb1
  replace kR := kR.all hb1
  replace hB := hB.trans (hb1.mono hB.size)
  replace h := h.all hb1
  obtain ⟨n, hn⟩ : ∃ n, ckFarm f.er = n := ⟨_, rfl⟩
  rw [hn]
  have r0 := kR.cell 0
  have r1 := kR.cell 1
  have f0 := kR.frozen 0
  have f1 := kR.frozen 1
  have kZ := (kR.set_ 0 (.slice none 0 0)).set_ 1 (.slice none 0 0)
  simp only [List.setIfInBounds_toArray, List.set_cons_zero, List.set_cons_succ] at kZ
  have hB9 := (hB.setCell (p := ⟨gR, 0, none⟩) hgR1 (.slice none 0 0)).setCell (p := ⟨gR, 1, none⟩) hgR1 (.slice none 0 0)
  clear c0 c1 c2 c3 c4 c5 c6 c7 hb1
  by_cases h0 : n = 0
  · subst h0
    have hz := ckFarm_zero hn
    have hl := lens_zero hz.2.1
    simp only [FrM.er, List.length_map] at hl
    have hpz := ckPlan_zero hz.1
    obtain ⟨m, hm⟩ : ∃ m, f.pl.length = m + 1 := ⟨f.pl.length - 1, by have := hpz.2.2.2.1; simp only [FrM.er] at this; omega⟩
    have hm23 : m ≤ 22 := by have := hpz.2.2.1; simp only [FrM.er] at this; omega
    have hdl : f.dn.length = m + 1 := by omega
    have hhl : f.hv.length = m + 1 := by omega
    obtain ⟨d, hd⟩ : ∃ d, f.dn[m]? = some d := ⟨_, List.getElem?_eq_getElem (by omega)⟩
    obtain ⟨p, hp⟩ : ∃ p, f.hv[m]? = some p := ⟨_, List.getElem?_eq_getElem (by omega)⟩
    have hpc : ckPart p.er = 0 := hz.2.2.2.2.1 p.er (List.mem_append.2 (.inr (List.mem_map_of_mem (List.mem_of_getElem? hp))))
    have hP := h.hv.each p (List.mem_of_getElem? hp)
    have hdr := h.dn
    have hhr := h.hv.row
    obtain ⟨b, off, u, hA, bl, hu, hc⟩ := hdr.at_ (k := m) (by omega)
    rw [boolsV, List.getElem?_map, hd] at hu
    injection hu with hu
    subst hu
    replace hc : w1.cell? ⟨b, off + m, none⟩ = some (.bool d) := hc
    obtain ⟨b2, off2, hA2, bl2, d0, d1⟩ := pt_get hhr hp
    have q1 : wrap64 ((f.pl.length : Int) - 1) = (m : Int) := by rw [hm]; unfold wrap64; omega
    have q2 : m < f.dn.length := by omega
    have q3 : m < f.hv.length := by omega
    have q4 : (m : Int) < (f.dn.length : Int) := by omega
    have q5 : (m : Int) < (f.hv.length : Int) := by omega
    rw [hA, hA2] at kF ⊢
    have c1 := kF.cell 1
    have c3 := kF.cell 3
    have c4 := kF.cell 4
    have HM := Lib.hid hm
    have HN := Lib.hid hn
    clear hm hn hdl hhl hA hA2 hz hl hpz hdr hhr
    cases d with
    | false =>
      have HO : Hid (outP f.er = (.nil, 11)) := by
        show _ = _
        unfold outP
        rw [if_neg (fun h => h HN.out), if_pos (by simp only [FrM.er, HM.out, Nat.add_sub_cancel, List.getD_eq_getElem?_getD, hd]; rfl)]
      clear hd hp
      go_wp2_with fail
      have q0 := kZ.cell 0
      have q1 := kZ.cell 1
      refine bodyPost_ret (v := .tuple #[.agg #[.slice none 0 0, .slice none 0 0], .int .i64 11]) (by simp [results, Try.results19, go_sem, q0, q1]) rfl ⟨⟨[], [], none, 0, none, 0⟩, by rw [HO.out]; rfl, nil_own _ _, by rw [HO.out]; rfl, hB9⟩
    | true =>
      have HO : Hid (outP f.er = (p.er, 0)) := by
        show _ = _
        unfold outP
        rw [if_neg (fun h => h HN.out), if_neg (by simp only [FrM.er, HM.out, Nat.add_sub_cancel, List.getD_eq_getElem?_getD, hd]; simp)]
        simp only [FrM.er, HM.out, Nat.add_sub_cancel, List.getD_eq_getElem?_getD, List.getElem?_map, hp]
        rfl
      have HCP := Lib.hid (copy_any p w1 hP (small_of hpc))
      clear hd hp kZ hB9 r0 r1 f0 f1
      go_wp2_with fail
      refine HCP.out.mono ?_
      rintro e w2 ⟨y, rfl, hy, hye, hb2⟩
      have kR2 := kR.all hb2
      have r0 := kR2.cell 0
      have r1 := kR2.cell 1
      have f0 := kR2.frozen 0
      have f1 := kR2.frozen 1
      have kZ := (kR2.set_ 0 (.slice y.fa y.frs.length y.fc)).set_ 1 (.slice y.da y.dfs.length y.dc)
      simp only [List.setIfInBounds_toArray, List.set_cons_zero, List.set_cons_succ] at kZ
      have hB9 := ((hB.trans (hb2.mono hB.size)).setCell (p := ⟨gR, 0, none⟩) hgR1 (.slice y.fa y.frs.length y.fc)).setCell (p := ⟨gR, 1, none⟩) hgR1 (.slice y.da y.dfs.length y.dc)
      have hy9 := ((hy.mono hB.size).blk (j := 0) kR2 (by decide) (by decide) (by decide) (by decide) (.slice y.fa y.frs.length y.fc)).blk (j := 1) (kR2.set_ 0 _) (by decide) (by decide) (by decide) (by decide) (.slice y.da y.dfs.length y.dc)
      go_wp2_with fail
      have q0 := kZ.cell 0
      have q1 := kZ.cell 1
      refine bodyPost_ret (v := .tuple #[.agg #[.slice y.fa y.frs.length y.fc, .slice y.da y.dfs.length y.dc], .int .i64 0]) (by simp [results, Try.results19, go_sem, q0, q1]) rfl ⟨y, by rw [HO.out], hy9, by rw [HO.out]; exact hye, hB9⟩
  · have hx : (n != 0) = true := by simpa using h0
    have HO : Hid (outP f.er = (.nil, n)) := (outP_bad (by rw [hn]; exact h0)).trans (by rw [hn])
    clear h0 hn
    go_wp2_with fail
    have q0 := kZ.cell 0
    have q1 := kZ.cell 1
    refine bodyPost_ret (v := .tuple #[.agg #[.slice none 0 0, .slice none 0 0], .int .i64 n]) (by simp [results, Try.results19, go_sem, q0, q1]) rfl ⟨⟨[], [], none, 0, none, 0⟩, by rw [HO.out]; rfl, nil_own _ _, by rw [HO.out]; rfl, hB9⟩
end Go.Proofs.Ytkfmkemjoddinaa
