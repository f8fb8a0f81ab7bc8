/- farm.Run: what it computes. -/
import Derived.Test.YtkfmkemjoddinaaFarmM
import Derived.Test.YtkfmkemjoddinaaOpenA
set_option linter.all false
namespace Go.Proofs.Ytkfmkemjoddinaa
open Go.RowKit
set_option maxRecDepth 100000

theorem Try.infoErrno : (Try.prog.info? 32).map (fun i => (i.zero, i.size, i.bytes)) = some (some (.int .i64 0), 1, 8) := by kernel_rfl
theorem FrM.Own.errno {w w' : World} {base base' size' n' : Nat} {f : FrM} {v' : Value} {xs' : List Value} (h : f.Own w base) (hm : w.ownsRow base' 32 size' v' n' xs') (hg : w.grownBy w' v'.ownBlock) : f.Own w' base :=
  ⟨own_kept_ty h.ps hm (by decide) hg, fun p hp => (h.pse p hp).kept_ty hm (by decide) (by decide) (by decide) (by decide) hg, own_kept_ty h.pl hm (by decide) hg, own_kept_ty h.dn hm (by decide) hg,
    own_kept_ty h.hv hm (by decide) hg, fun p hp => (h.hve p hp).kept_ty hm (by decide) (by decide) (by decide) (by decide) hg, own_kept_ty h.gs hm (by decide) hg, own_kept_ty h.wk hm (by decide) hg, own_kept_ty h.nt hm (by decide) hg, fun m hm' => (h.nte m hm').kept_ty hm (by decide) (by decide) (by decide) (by decide) hg, h.apart⟩
theorem own_far8 {w : World} {base size n g : Nat} {e t : TypeId} {v : Value} {xs : List Value} {cs : Array Value} (h : w.ownsRow base e size v n xs) (hb : Blk w g t cs) (hne : e ≠ t) (f : FrM) : (((((((((w.setCell ⟨g, 0, none⟩ (.slice f.pa f.ps.length f.pc)).setCell ⟨g, 1, none⟩ (.slice f.la f.pl.length f.lc)).setCell ⟨g, 2, none⟩ (.int .i64 f.now)).setCell ⟨g, 3, none⟩ (.slice f.da f.dn.length f.dc)).setCell ⟨g, 4, none⟩ (.slice f.ha f.hv.length f.hc)).setCell ⟨g, 5, none⟩ (.slice f.ga f.gs.length f.gc)).setCell ⟨g, 6, none⟩ (.slice f.wa f.wk.length f.wc)).setCell ⟨g, 7, none⟩ (.slice f.na f.nt.length f.nc))).ownsRow base e size v n xs := by
  have hn := own_blk_ne h hb hne
  exact own_setCell (own_setCell (own_setCell (own_setCell (own_setCell (own_setCell (own_setCell (own_setCell h hn _) hn _) hn _) hn _) hn _) hn _) hn _) hn _
theorem hap_get {w : World} {B : Nat} {A : Option Addr} {l : List Hap} (h : Reads w B 3 A l.length (hapsV l)) {i : Nat} {x : Hap} (hx : l[i]? = some x) :
    ∃ b off, A = some ⟨b, off, none⟩ ∧ b < B ∧ w.cell? ⟨b, off + i * 3, none⟩ = some (.int .i64 x.kind) ∧ w.cell? ⟨b, off + i * 3 + 1, none⟩ = some (.int .i64 x.worker) ∧ w.cell? ⟨b, off + i * 3 + 2, none⟩ = some (.int .i64 x.k) := by
  obtain ⟨b, off, e, hb, hc⟩ := cells_get (cells := Hap.cells) (fun _ => rfl) h hx
  exact ⟨b, off, e, hb, hc 0 _ rfl, hc 1 _ rfl, hc 2 _ rfl⟩
noncomputable def runP (f : Frm) (l : List Hap) : Frm × List Int × Int :=
  if ckFarm f ≠ 0 then (.nil, [], ckFarm f) else if 120 < l.length then (.nil, [], 2) else ((runFrom f l).1, (runFrom f l).2, 0)
theorem runP_bad {f : Frm} {l : List Hap} (h : ckFarm f ≠ 0) : runP f l = (.nil, [], ckFarm f) := if_pos h
theorem runP_many {f : Frm} {l : List Hap} (h : ckFarm f = 0) (h1 : 120 < l.length) : runP f l = (.nil, [], 2) := by unfold runP; rw [if_neg (fun hn => hn h), if_pos h1]
theorem runP_ok {f : Frm} {l : List Hap} (h : ckFarm f = 0) (h1 : ¬ 120 < l.length) : runP f l = ((runFrom f l).1, (runFrom f l).2, 0) := by unfold runP; rw [if_neg (fun hn => hn h), if_neg h1]
theorem run_cons (f : Frm) (x : Hap) (r : List Hap) : runFrom f (x :: r) = ((runFrom (if (stepP f x).2 = 0 then (stepP f x).1 else f) r).1, (stepP f x).2 :: (runFrom (if (stepP f x).2 = 0 then (stepP f x).1 else f) r).2) := rfl
def RunIs (w : World) (r : Frm × List Int × Int) (e : Ending) (w' : World) : Prop :=
  ∃ (f' : FrM) (v : Value), e = .returned (.tuple #[.agg #[.slice f'.pa f'.ps.length f'.pc, .slice f'.la f'.pl.length f'.lc, .int .i64 f'.now, .slice f'.da f'.dn.length f'.dc, .slice f'.ha f'.hv.length f'.hc, .slice f'.ga f'.gs.length f'.gc, .slice f'.wa f'.wk.length f'.wc, .slice f'.na f'.nt.length f'.nc], v, .int .i64 r.2.2]) ∧ f'.Own w' w.heap.size ∧ f'.er = r.1 ∧ w'.ownsRow w.heap.size 32 1 v r.2.1.length (intsV r.2.1) ∧ Below w.heap.size w w'
set_option maxHeartbeats 40000000 in
theorem run_any (f : FrM) (A : Option Addr) (c : Nat) (l : List Hap) (w : World) (h : f.At w w.heap.size) (hl : Reads w w.heap.size 3 A l.length (hapsV l)) (hlm : l.length ≤ 9223372036854775807) :
    Calls Try.prog 17 #[.agg #[.slice f.pa f.ps.length f.pc, .slice f.la f.pl.length f.lc, .int .i64 f.now, .slice f.da f.dn.length f.dc, .slice f.ha f.hv.length f.hc, .slice f.ga f.gs.length f.gc, .slice f.wa f.wk.length f.wc, .slice f.na f.nt.length f.nc], .slice A l.length c] w (RunIs w (runP f.er l)) := by
  unfold RunIs
  have kF := (Blk.new w 29 #[.slice f.pa f.ps.length f.pc, .slice f.la f.pl.length f.lc, .int .i64 f.now, .slice f.da f.dn.length f.dc, .slice f.ha f.hv.length f.hc, .slice f.ga f.gs.length f.gc, .slice f.wa f.wk.length f.wc, .slice f.na f.nt.length f.nc]).alloc (.cells #[.slice none 0 0, .slice none 0 0, .int .i64 0, .slice none 0 0, .slice none 0 0, .slice none 0 0, .slice none 0 0, .slice none 0 0] 29)
  have kR := Blk.new' (w.alloc (.cells #[.slice f.pa f.ps.length f.pc, .slice f.la f.pl.length f.lc, .int .i64 f.now, .slice f.da f.dn.length f.dc, .slice f.ha f.hv.length f.hc, .slice f.ga f.gs.length f.gc, .slice f.wa f.wk.length f.wc, .slice f.na f.nt.length f.nc] 29)) 29 #[.slice none 0 0, .slice none 0 0, .int .i64 0, .slice none 0 0, .slice none 0 0, .slice none 0 0, .slice none 0 0, .slice none 0 0] (g := w.heap.size + 1) (by simp)
  have hB : Below w.heap.size w ((w.alloc (.cells #[.slice f.pa f.ps.length f.pc, .slice f.la f.pl.length f.lc, .int .i64 f.now, .slice f.da f.dn.length f.dc, .slice f.ha f.hv.length f.hc, .slice f.ga f.gs.length f.gc, .slice f.wa f.wk.length f.wc, .slice f.na f.nt.length f.nc] 29)).alloc (.cells #[.slice none 0 0, .slice none 0 0, .int .i64 0, .slice none 0 0, .slice none 0 0, .slice none 0 0, .slice none 0 0, .slice none 0 0] 29)) := by (repeat' (first | exact Below.refl _ _ | assumption | refine Below.setCell ?_ (by first | omega | exact Below.size (by assumption) | (simp; done) | (simp; omega)) _ | refine Below.alloc ?_ (by first | omega | exact Below.size (by assumption) | (simp; done) | (simp; omega)) _ | refine Below.drew ?_ | refine below_drewN ?_ _))
  replace h := h.all hB
  go_enter Try.func17, Try.ntmps17
  go_upto_region 1 with (fail)
  obtain ⟨W, hW⟩ : ∃ W', W' = (w.alloc (.cells #[.slice f.pa f.ps.length f.pc, .slice f.la f.pl.length f.lc, .int .i64 f.now, .slice f.da f.dn.length f.dc, .slice f.ha f.hv.length f.hc, .slice f.ga f.gs.length f.gc, .slice f.wa f.wk.length f.wc, .slice f.na f.nt.length f.nc] 29)).alloc (.cells #[.slice none 0 0, .slice none 0 0, .int .i64 0, .slice none 0 0, .slice none 0 0, .slice none 0 0, .slice none 0 0, .slice none 0 0] 29) := ⟨_, rfl⟩
  obtain ⟨gR, hgR⟩ : ∃ g, g = w.heap.size + 1 := ⟨_, rfl⟩
  obtain ⟨gF, hgF⟩ : ∃ g, g = w.heap.size := ⟨_, rfl⟩
  have hgR1 : w.heap.size ≤ gR := by omega
  have hgF1 : w.heap.size ≤ gF := by omega
  have hne : gF ≠ gR := by omega
  rw [← hgR] at kR ⊢
  rw [← hgF] at kF ⊢
  rw [← hW] at kF kR h hB ⊢
  clear hW hgF hgR
  (have q0 := (kF).cell 0; have q1 := (kF).cell 1; have q2 := (kF).cell 2; have q3 := (kF).cell 3; have q4 := (kF).cell 4; have q5 := (kF).cell 5; have q6 := (kF).cell 6; have q7 := (kF).cell 7)
  go_wp2_with fail
  refine (farmCheck_any f W h).mono ?_
  rintro e w1 ⟨rfl, hb1⟩
  replace kF := kF.all hb1
  replace kR := kR.all hb1
  replace hB := hB.trans (hb1.mono hB.size)
  replace h := h.all hb1
  obtain ⟨n, hn⟩ : ∃ n, ckFarm f.er = n := ⟨_, rfl⟩
  rw [hn]
  (clear q0 q1 q2 q3 q4 q5 q6 q7)
  clear hb1
  by_cases h0 : n = 0
  · subst h0
    have hF := fine_of hn
    have HN := Lib.hid hn
    clear hn
    by_cases hm : 120 < l.length
    · have hD : decide (120 < (l.length : Int)) = true := decide_eq_true (by omega)
      have HE := Lib.hid (runP_many HN.out hm)
      (have r0 := (kR).cell 0; have r1 := (kR).cell 1; have r2 := (kR).cell 2; have r3 := (kR).cell 3; have r4 := (kR).cell 4; have r5 := (kR).cell 5; have r6 := (kR).cell 6; have r7 := (kR).cell 7)
      (have z0 := (kR).frozen 0; have z1 := (kR).frozen 1; have z2 := (kR).frozen 2; have z3 := (kR).frozen 3; have z4 := (kR).frozen 4; have z5 := (kR).frozen 5; have z6 := (kR).frozen 6; have z7 := (kR).frozen 7)
      have hBl := kR.putz8
      have hBe := below_putz8 hB hgR1
      (have y0 := (hBl).cell 0; have y1 := (hBl).cell 1; have y2 := (hBl).cell 2; have y3 := (hBl).cell 3; have y4 := (hBl).cell 4; have y5 := (hBl).cell 5; have y6 := (hBl).cell 6; have y7 := (hBl).cell 7)
      clear kR hB hBl h kF hm
      go_wp2
      refine bodyPost_ret (v := .tuple #[.agg #[.slice none 0 0, .slice none 0 0, .int .i64 0, .slice none 0 0, .slice none 0 0, .slice none 0 0, .slice none 0 0, .slice none 0 0], .slice none 0 0, .int .i64 2]) (by simp [results, Try.results17, go_sem, y0, y1, y2, y3, y4, y5, y6, y7]) rfl ⟨FrM.nil, .slice none 0 0, by rw [HE.out]; rfl, nilF_own _ _, by rw [HE.out]; rfl, by rw [HE.out]; exact World.ownsRow_nil _ _ _ _, hBe⟩
    · have hD : decide (120 < (l.length : Int)) = false := decide_eq_false (by omega)
      have HE := Lib.hid (runP_ok HN.out hm)
      have hl120 : l.length ≤ 120 := by omega
      (have q0 := (kF).cell 0; have q1 := (kF).cell 1; have q2 := (kF).cell 2; have q3 := (kF).cell 3; have q4 := (kF).cell 4; have q5 := (kF).cell 5; have q6 := (kF).cell 6; have q7 := (kF).cell 7)
      (have z0 := (kF).frozen 0; have z1 := (kF).frozen 1; have z2 := (kF).frozen 2; have z3 := (kF).frozen 3; have z4 := (kF).frozen 4; have z5 := (kF).frozen 5; have z6 := (kF).frozen 6; have z7 := (kF).frozen 7)
      have CP := Lib.hid (copyFarm_any f w1 h hF)
      clear hm
      go_wp2_with fail
      refine CP.out.mono ?_
      rintro e w2 ⟨f1, rfl, hO1, hE1, hb2⟩
      replace kF := kF.all hb2
      replace kR := kR.all hb2
      have y0 := hB.size
      replace hB := hB.trans (hb2.mono y0)
      (clear q0 q1 q2 q3 q4 q5 q6 q7)
      (clear z0 z1 z2 z3 z4 z5 z6 z7)
      (have q0 := (kF).cell 0; have q1 := (kF).cell 1; have q2 := (kF).cell 2; have q3 := (kF).cell 3; have q4 := (kF).cell 4; have q5 := (kF).cell 5; have q6 := (kF).cell 6; have q7 := (kF).cell 7)
      (have z0 := (kF).frozen 0; have z1 := (kF).frozen 1; have z2 := (kF).frozen 2; have z3 := (kF).frozen 3; have z4 := (kF).frozen 4; have z5 := (kF).frozen 5; have z6 := (kF).frozen 6; have z7 := (kF).frozen 7)
      have kF3 := kF.put8 f1
      have hO3 := (hO1.mono y0).put8 kF f1
      have kR3 := kR.far8 (Ne.symm hne) f1
      have hB3 := below_put8 hB hgF1 f1
      clear hO1 kF kR hB CP h y0 hb2
      go_upto_region 7 with (fail)
      obtain ⟨w3, hw3⟩ : ∃ y, y = ((((((((w2.setCell ⟨gF, 0, none⟩ (.slice f1.pa f1.ps.length f1.pc)).setCell ⟨gF, 1, none⟩ (.slice f1.la f1.pl.length f1.lc)).setCell ⟨gF, 2, none⟩ (.int .i64 f1.now)).setCell ⟨gF, 3, none⟩ (.slice f1.da f1.dn.length f1.dc)).setCell ⟨gF, 4, none⟩ (.slice f1.ha f1.hv.length f1.hc)).setCell ⟨gF, 5, none⟩ (.slice f1.ga f1.gs.length f1.gc)).setCell ⟨gF, 6, none⟩ (.slice f1.wa f1.wk.length f1.wc)).setCell ⟨gF, 7, none⟩ (.slice f1.na f1.nt.length f1.nc)) := ⟨_, rfl⟩
      rw [← hw3] at hO3 kF3 kR3 hB3 ⊢
      clear hw3
      (clear q0 q1 q2 q3 q4 q5 q6 q7)
      (clear z0 z1 z2 z3 z4 z5 z6 z7)
      obtain ⟨i0, hi, hz0, hz1, hz2⟩ := info_parts Try.infoErrno
      go_wp2
      go_loopw [27, 8] (fun i s wr => ∃ (k : Nat) (fk : FrM) (sd : List Int) (As : Option Addr) (cs : Nat), k ≤ l.length ∧ i = .int .i64 k ∧ s = .slice As sd.length cs ∧ Hid (sd.length = k) ∧ wr.ownsRow w.heap.size 32 1 (.slice As sd.length cs) sd.length (intsV sd) ∧
        fk.Own wr w.heap.size ∧ Hid fk.er.Fine ∧ Blk wr gF 29 #[.slice fk.pa fk.ps.length fk.pc, .slice fk.la fk.pl.length fk.lc, .int .i64 fk.now, .slice fk.da fk.dn.length fk.dc, .slice fk.ha fk.hv.length fk.hc, .slice fk.ga fk.gs.length fk.gc, .slice fk.wa fk.wk.length fk.wc, .slice fk.na fk.nt.length fk.nc] ∧ Blk wr gR 29 #[.slice none 0 0, .slice none 0 0, .int .i64 0, .slice none 0 0, .slice none 0 0, .slice none 0 0, .slice none 0 0, .slice none 0 0] ∧ Hid (runFrom f.er l = ((runFrom fk.er (l.drop k)).1, sd ++ (runFrom fk.er (l.drop k)).2)) ∧ Below w.heap.size w wr) (fun i _ _ => l.length - (intOf i).toNat)
      case atStart => exact ⟨0, f1, [], none, 0, Nat.zero_le _, rfl, rfl, Lib.hid rfl, World.ownsRow_nil _ _ _ _, hO3, Lib.hid (by rw [hE1]; exact hF), kF3, kR3, Lib.hid (by rw [hE1]; simp), hB3⟩
      case round =>
        clear hO3 kF3 kR3 hB3 hE1 hF
        obtain ⟨k, fk, sd, As, cs, hk, rfl, rfl, hsl, oS, hO, hFk, kF, kR, hrun, hB⟩ := hrel
        by_cases hlt : k < l.length
        · obtain ⟨x, hx⟩ : ∃ x, l[k]? = some x := ⟨_, List.getElem?_eq_getElem hlt⟩
          have hd : l.drop k = x :: l.drop (k + 1) := by
            obtain ⟨hk', hv⟩ := List.getElem?_eq_some_iff.1 hx
            rw [List.drop_eq_getElem_cons hk', hv]
          obtain ⟨b, off, rfl, bl, d0, d1, d2⟩ := hap_get (hl.below hB) hx
          have HD := Lib.hid hd
          have kX := Blk.new wr 31 #[.int .i64 x.kind, .int .i64 x.worker, .int .i64 x.k]
          have hbx : Below wr.heap.size wr (wr.alloc (.cells #[.int .i64 x.kind, .int .i64 x.worker, .int .i64 x.k] 31)) := by (repeat' (first | exact Below.refl _ _ | assumption | refine Below.setCell ?_ (by first | omega | exact Below.size (by assumption) | (simp; done) | (simp; omega)) _ | refine Below.alloc ?_ (by first | omega | exact Below.size (by assumption) | (simp; done) | (simp; omega)) _ | refine Below.drew ?_ | refine below_drewN ?_ _))
          clear hx hd
          go_upto_region 11 with (fail)
          replace kF := kF.all hbx
          replace kR := kR.all hbx
          replace hO := hO.all hbx
          replace oS := own_all oS hbx
          replace hB := hB.trans (hbx.mono hB.size)
          obtain ⟨gX, hgX⟩ : ∃ y, y = wr.heap.size := ⟨_, rfl⟩
          obtain ⟨wc, hwc⟩ : ∃ y, y = wr.alloc (.cells #[.int .i64 x.kind, .int .i64 x.worker, .int .i64 x.k] 31) := ⟨_, rfl⟩
          rw [← hgX] at kX ⊢
          rw [← hwc] at kF kR kX hO oS hB ⊢
          clear hwc hgX hbx d0 d1 d2
          (have q0 := (kF).cell 0; have q1 := (kF).cell 1; have q2 := (kF).cell 2; have q3 := (kF).cell 3; have q4 := (kF).cell 4; have q5 := (kF).cell 5; have q6 := (kF).cell 6; have q7 := (kF).cell 7)
          have CP := Lib.hid (copyFarm_any fk wc hO.at_ hFk.out)
          go_wp2_with fail
          refine CP.out.mono ?_
          rintro e w4 ⟨f2, rfl, hO2, hE2, hb4⟩
          have h5 : FB (w4.alloc (.cells #[.slice f2.pa f2.ps.length f2.pc, .slice f2.la f2.pl.length f2.lc, .int .i64 f2.now, .slice f2.da f2.dn.length f2.dc, .slice f2.ha f2.hv.length f2.hc, .slice f2.ga f2.gs.length f2.gc, .slice f2.wa f2.wk.length f2.wc, .slice f2.na f2.nt.length f2.nc] 29)) wc.heap.size w4.heap.size f2 := ⟨Blk.new _ _ _, hO2.alloc _, hb4.size⟩
          have hb5 := hb4.alloc hb4.size (.cells #[.slice f2.pa f2.ps.length f2.pc, .slice f2.la f2.pl.length f2.lc, .int .i64 f2.now, .slice f2.da f2.dn.length f2.dc, .slice f2.ha f2.hv.length f2.hc, .slice f2.ga f2.gs.length f2.gc, .slice f2.wa f2.wk.length f2.wc, .slice f2.na f2.nt.length f2.nc] 29)
          have kX5 := kX.all hb5
          go_upto_region 12 with (fail)
          obtain ⟨gN, hgN⟩ : ∃ y, y = w4.heap.size := ⟨_, rfl⟩
          obtain ⟨w5, hw5⟩ : ∃ y, y = w4.alloc (.cells #[.slice f2.pa f2.ps.length f2.pc, .slice f2.la f2.pl.length f2.lc, .int .i64 f2.now, .slice f2.da f2.dn.length f2.dc, .slice f2.ha f2.hv.length f2.hc, .slice f2.ga f2.gs.length f2.gc, .slice f2.wa f2.wk.length f2.wc, .slice f2.na f2.nt.length f2.nc] 29) := ⟨_, rfl⟩
          rw [← hgN] at h5 ⊢
          rw [← hw5] at h5 hb5 kX5 ⊢
          clear hgN hw5 CP hO2 hb4
          (clear q0 q1 q2 q3 q4 q5 q6 q7)
          have x0 := kX5.cell 0
          have x1 := kX5.cell 1
          have x2 := kX5.cell 2
          have ST := Lib.hid (step_any f2 x wc.heap.size gN w5 h5 (by rw [hE2]; exact hFk.out))
          rw [hE2] at ST
          obtain ⟨r, hr⟩ : ∃ r, stepP fk.er x = r := ⟨_, rfl⟩
          have HFS := Lib.hid (fine_step hFk.out x)
          rw [hr] at ST HFS
          have HR := Lib.hid hr
          clear hr hE2
          go_wp2_with fail
          refine ST.out.mono ?_
          rintro e w6 ⟨rfl, f3, h6, e6, hb6, _⟩
          have hb7 := hb5.trans hb6
          replace kF := kF.all hb7
          replace kR := kR.all hb7
          replace hO := hO.all hb7
          replace oS := own_all oS hb7
          have y0 := hB.size
          replace hB := hB.trans (hb7.mono y0)
          have kN := h6.blk
          have hO6 := h6.own.mono y0
          have hlt7 : w.heap.size ≤ w6.heap.size := hB.size
          clear ST hb6 hb5 hb7 kX5 x0 x1 x2 h5 h6 kX y0
          obtain ⟨r1, n2⟩ := r
          simp only at e6 HFS ⊢
          by_cases hn2 : n2 = 0
          · subst hn2
            have hgt : Hid (runFrom f.er l = ((runFrom r1 (l.drop (k + 1))).1, (sd ++ [0]) ++ (runFrom r1 (l.drop (k + 1))).2)) := by
              show _ = _
              rw [hrun.out, HD.out, run_cons, HR.out]; simp
            (have q0 := (kN).cell 0; have q1 := (kN).cell 1; have q2 := (kN).cell 2; have q3 := (kN).cell 3; have q4 := (kN).cell 4; have q5 := (kN).cell 5; have q6 := (kN).cell 6; have q7 := (kN).cell 7)
            (have r0 := (kF).cell 0; have r1 := (kF).cell 1; have r2 := (kF).cell 2; have r3 := (kF).cell 3; have r4 := (kF).cell 4; have r5 := (kF).cell 5; have r6 := (kF).cell 6; have r7 := (kF).cell 7)
            (have z0 := (kF).frozen 0; have z1 := (kF).frozen 1; have z2 := (kF).frozen 2; have z3 := (kF).frozen 3; have z4 := (kF).frozen 4; have z5 := (kF).frozen 5; have z6 := (kF).frozen 6; have z7 := (kF).frozen 7)
            have kF8 := kF.put8 f3
            have hO8 := hO6.put8 kF f3
            have kR8 := kR.far8 (Ne.symm hne) f3
            have oS8 := own_far8 oS kF (by decide) f3
            have hB8 := below_put8 hB hgF1 f3
            clear kF hO6 kR oS hB hO kN
            go_upto_region 15 with (fail)
            obtain ⟨w8, hw8⟩ : ∃ y, y = ((((((((w6.setCell ⟨gF, 0, none⟩ (.slice f3.pa f3.ps.length f3.pc)).setCell ⟨gF, 1, none⟩ (.slice f3.la f3.pl.length f3.lc)).setCell ⟨gF, 2, none⟩ (.int .i64 f3.now)).setCell ⟨gF, 3, none⟩ (.slice f3.da f3.dn.length f3.dc)).setCell ⟨gF, 4, none⟩ (.slice f3.ha f3.hv.length f3.hc)).setCell ⟨gF, 5, none⟩ (.slice f3.ga f3.gs.length f3.gc)).setCell ⟨gF, 6, none⟩ (.slice f3.wa f3.wk.length f3.wc)).setCell ⟨gF, 7, none⟩ (.slice f3.na f3.nt.length f3.nc)) := ⟨_, rfl⟩
            rw [← hw8] at kF8 hO8 kR8 oS8 hB8 ⊢
            (clear q0 q1 q2 q3 q4 q5 q6 q7)
            (clear r0 r1 r2 r3 r4 r5 r6 r7)
            (clear z0 z1 z2 z3 z4 z5 z6 z7)
            have oS := oS8
            have hBr := hB8
            have hOx := hO8
            have kFx := kF8
            have kRx := kR8
            have HFx : Hid f3.er.Fine := by show _; rw [e6]; exact HFS.out
            obtain ⟨fx, hfx⟩ : ∃ y, y = f3 := ⟨_, rfl⟩
            rw [← hfx] at hOx kFx HFx
            rw [← e6, ← hfx] at hgt
            clear hfx e6 HFS hO8 kF8 kR8 oS8 hB8 hw8 HR hrun HD
            have hsd : sd.length ≤ 120 := by rw [hsl.out]; omega
            ((go_wp2_with (at_builtin; refine wpList_append_own _ rfl (.tmp 38) (.tmp 40) 56 rfl w.heap.size 32 i0 (.int .i64 0) 1 8 Try.underlying56 hi hz0 hz1 hz2 rfl (by decide) _ _ _ rfl (oS.alloc (.cells #[.int .i64 0] 32)) ⟨_, 0, none⟩ 1 1 [.int .i64 0] rfl rfl ?c1 ?c2 ?c3 ?c4 ?c5 ?_); (case c1 => exact one_cell); (case c2 => intro u hu; simp at hu; subst hu; rfl); (case c3 => unfold maxLen; omega); (case c4 => omega); (case c5 => have := hBr.size; simp; omega); intro v' w9 hown9 hg9 _); obtain ⟨A9, c9, rfl, _, _⟩ := own_form hown9; have hO9 := (hOx.alloc (.cells #[.int .i64 0] 32)).errno (oS.alloc (.cells #[.int .i64 0] 32)) hg9; have kF9 := (kFx.alloc (.cells #[.int .i64 0] 32)).grown hg9 (own_blk_ne (oS.alloc (.cells #[.int .i64 0] 32)) (kFx.alloc (.cells #[.int .i64 0] 32)) (by decide)).symm; have kR9 := (kRx.alloc (.cells #[.int .i64 0] 32)).grown hg9 (own_blk_ne (oS.alloc (.cells #[.int .i64 0] 32)) (kRx.alloc (.cells #[.int .i64 0] 32)) (by decide)).symm; have hB9 := (hBr.alloc hBr.size (.cells #[.int .i64 0] 32)).grown hg9 (by have := hBr.size; simp; omega) (fun x hx => (oS.lt x hx).1); clear hg9 kFx kRx hOx oS hBr; go_wp2; go_roundw; (case rel => exact ⟨k + 1, fx, sd ++ [0], A9, c9, by omega, by go_num, by rw [List.length_append]; rfl, Lib.hid (by rw [List.length_append, hsl.out]; rfl), by simpa [intsV, intV] using hown9, hO9, HFx, kF9, kR9, hgt, hB9⟩); (case measure => simp [intOf]; omega))
          · have hx2 : (n2 == 0) = false := by simpa using hn2
            have hgt : Hid (runFrom f.er l = ((runFrom fk.er (l.drop (k + 1))).1, (sd ++ [n2]) ++ (runFrom fk.er (l.drop (k + 1))).2)) := by
              show _ = _
              rw [hrun.out, HD.out, run_cons, HR.out, if_neg hn2]; simp
            have hBr := hB
            have hOx := hO
            have kFx := kF
            have kRx := kR
            have HFx := hFk
            obtain ⟨fx, hfx⟩ : ∃ y, y = fk := ⟨_, rfl⟩
            rw [← hfx] at hOx kFx HFx hgt
            clear hfx e6 HFS HR hrun HD hB hO kF kR hFk hO6 kN hn2
            have hsd : sd.length ≤ 120 := by rw [hsl.out]; omega
            ((go_wp2_with (at_builtin; refine wpList_append_own _ rfl (.tmp 38) (.tmp 40) 56 rfl w.heap.size 32 i0 (.int .i64 0) 1 8 Try.underlying56 hi hz0 hz1 hz2 rfl (by decide) _ _ _ rfl (oS.alloc (.cells #[.int .i64 n2] 32)) ⟨_, 0, none⟩ 1 1 [.int .i64 n2] rfl rfl ?c1 ?c2 ?c3 ?c4 ?c5 ?_); (case c1 => exact one_cell); (case c2 => intro u hu; simp at hu; subst hu; rfl); (case c3 => unfold maxLen; omega); (case c4 => omega); (case c5 => have := hBr.size; simp; omega); intro v' w9 hown9 hg9 _); obtain ⟨A9, c9, rfl, _, _⟩ := own_form hown9; have hO9 := (hOx.alloc (.cells #[.int .i64 n2] 32)).errno (oS.alloc (.cells #[.int .i64 n2] 32)) hg9; have kF9 := (kFx.alloc (.cells #[.int .i64 n2] 32)).grown hg9 (own_blk_ne (oS.alloc (.cells #[.int .i64 n2] 32)) (kFx.alloc (.cells #[.int .i64 n2] 32)) (by decide)).symm; have kR9 := (kRx.alloc (.cells #[.int .i64 n2] 32)).grown hg9 (own_blk_ne (oS.alloc (.cells #[.int .i64 n2] 32)) (kRx.alloc (.cells #[.int .i64 n2] 32)) (by decide)).symm; have hB9 := (hBr.alloc hBr.size (.cells #[.int .i64 n2] 32)).grown hg9 (by have := hBr.size; simp; omega) (fun x hx => (oS.lt x hx).1); clear hg9 kFx kRx hOx oS hBr; go_wp2; go_roundw; (case rel => exact ⟨k + 1, fx, sd ++ [n2], A9, c9, by omega, by go_num, by rw [List.length_append]; rfl, Lib.hid (by rw [List.length_append, hsl.out]; rfl), by simpa [intsV, intV] using hown9, hO9, HFx, kF9, kR9, hgt, hB9⟩); (case measure => simp [intOf]; omega))
        · obtain rfl : k = l.length := by omega
          have hfin : Hid (runFrom f.er l = (fk.er, sd)) := by
            show _ = _
            rw [hrun.out, List.drop_length]
            simp [runFrom]
          (have q0 := (kF).cell 0; have q1 := (kF).cell 1; have q2 := (kF).cell 2; have q3 := (kF).cell 3; have q4 := (kF).cell 4; have q5 := (kF).cell 5; have q6 := (kF).cell 6; have q7 := (kF).cell 7)
          (have r0 := (kR).cell 0; have r1 := (kR).cell 1; have r2 := (kR).cell 2; have r3 := (kR).cell 3; have r4 := (kR).cell 4; have r5 := (kR).cell 5; have r6 := (kR).cell 6; have r7 := (kR).cell 7)
          (have z0 := (kR).frozen 0; have z1 := (kR).frozen 1; have z2 := (kR).frozen 2; have z3 := (kR).frozen 3; have z4 := (kR).frozen 4; have z5 := (kR).frozen 5; have z6 := (kR).frozen 6; have z7 := (kR).frozen 7)
          have hPut := hO.put8 kR fk
          have hBl := kR.put8 fk
          have hBe := below_put8 hB hgR1 fk
          have oS8 := own_far8 oS kR (by decide) fk
          (have y0 := (hBl).cell 0; have y1 := (hBl).cell 1; have y2 := (hBl).cell 2; have y3 := (hBl).cell 3; have y4 := (hBl).cell 4; have y5 := (hBl).cell 5; have y6 := (hBl).cell 6; have y7 := (hBl).cell 7)
          clear kF kR hB hBl hO hrun oS
          go_wp2
          refine bodyPost_ret (v := .tuple #[.agg #[.slice fk.pa fk.ps.length fk.pc, .slice fk.la fk.pl.length fk.lc, .int .i64 fk.now, .slice fk.da fk.dn.length fk.dc, .slice fk.ha fk.hv.length fk.hc, .slice fk.ga fk.gs.length fk.gc, .slice fk.wa fk.wk.length fk.wc, .slice fk.na fk.nt.length fk.nc], .slice As sd.length cs, .int .i64 0]) (by simp [results, Try.results17, go_sem, y0, y1, y2, y3, y4, y5, y6, y7]) rfl ⟨fk, .slice As sd.length cs, by rw [HE.out], hPut, by rw [HE.out, hfin.out], by rw [HE.out, hfin.out]; exact oS8, hBe⟩
  · have HE := Lib.hid (runP_bad (l := l) (by rw [hn]; exact h0))
    rw [hn] at HE
    have hx : (n != 0) = true := by simpa using h0
    (have r0 := (kR).cell 0; have r1 := (kR).cell 1; have r2 := (kR).cell 2; have r3 := (kR).cell 3; have r4 := (kR).cell 4; have r5 := (kR).cell 5; have r6 := (kR).cell 6; have r7 := (kR).cell 7)
    (have z0 := (kR).frozen 0; have z1 := (kR).frozen 1; have z2 := (kR).frozen 2; have z3 := (kR).frozen 3; have z4 := (kR).frozen 4; have z5 := (kR).frozen 5; have z6 := (kR).frozen 6; have z7 := (kR).frozen 7)
    have hBl := kR.putz8
    have hBe := below_putz8 hB hgR1
    (have y0 := (hBl).cell 0; have y1 := (hBl).cell 1; have y2 := (hBl).cell 2; have y3 := (hBl).cell 3; have y4 := (hBl).cell 4; have y5 := (hBl).cell 5; have y6 := (hBl).cell 6; have y7 := (hBl).cell 7)
    clear kR hB hBl h h0 hn kF
    go_wp2
    refine bodyPost_ret (v := .tuple #[.agg #[.slice none 0 0, .slice none 0 0, .int .i64 0, .slice none 0 0, .slice none 0 0, .slice none 0 0, .slice none 0 0, .slice none 0 0], .slice none 0 0, .int .i64 n]) (by simp [results, Try.results17, go_sem, y0, y1, y2, y3, y4, y5, y6, y7]) rfl ⟨FrM.nil, .slice none 0 0, by rw [HE.out]; rfl, nilF_own _ _, by rw [HE.out]; rfl, by rw [HE.out]; exact World.ownsRow_nil _ _ _ _, hBe⟩
end Go.Proofs.Ytkfmkemjoddinaa
