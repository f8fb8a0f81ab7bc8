/- ropewalklaw.FarmLives: it answers true. -/
import Derived.Test.YtkfmkemjoddinaaFarmA
import Derived.Test.YtkfmkemjoddinaaFmC
import Derived.Test.YtkfmkemjoddinaaFarmV
import Derived.Test.YtkfmkemjoddinaaPlK
import Derived.Test.YtkfmkemjoddinaaEvalW
import Derived.Test.YtkfmkemjoddinaaAt
set_option linter.all false
namespace Go.Proofs.Ytkfmkemjoddinaa
open Go.RowKit
set_option maxRecDepth 100000

/-- The five states of a round. -/
def RoundS (f0 : Frm) (S : List Frm) (w : Int) : Prop := S.length = 5 ∧ S[0]? = some f0 ∧ ∀ (j : Nat) (k : Int) (s s' : Frm), [(1 : Int), 3, 2, 3][j]? = some k → S[j]? = some s → S[j + 1]? = some s' → s.Fine ∧ stepP s (hapOf k w) = (s', 0)
theorem round_states {f : Frm} (h : f.Calm) (hv : (evalRes f.pl f.ps).2 = 0) (hc : f.dn.count true < f.dn.length) {w : Int} (h0 : 0 ≤ w) (h1 : w < f.wk.length) :
    ∃ S g, RoundS f S w ∧ S[4]? = some g ∧ g.Calm ∧ g.dn.count true = f.dn.count true + 1 ∧ g.ps = f.ps ∧ g.pl = f.pl ∧ g.wk.length = f.wk.length := by
  obtain ⟨i, hi⟩ := count_some hc
  obtain ⟨f1, f2, f3, f4, s1, s2, s3, s4, hC, hn, e1, e2, e3⟩ := round_ok h hv hi h0 h1
  have a := fine_step h.fine (hapOf 1 w)
  rw [s1] at a
  have b := fine_step a (hapOf 3 w)
  rw [s2] at b
  have c := fine_step b (hapOf 2 w)
  rw [s3] at c
  refine ⟨[f, f1, f2, f3, f4], f4, ⟨rfl, rfl, fun j k s s' hk hs hs' => ?_⟩, rfl, hC, hn, e1, e2, e3⟩
  match j with
  | 0 => simp at hk hs hs'; subst hk hs hs'; exact ⟨h.fine, s1⟩
  | 1 => simp at hk hs hs'; subst hk hs hs'; exact ⟨a, s2⟩
  | 2 => simp at hk hs hs'; subst hk hs hs'; exact ⟨b, s3⟩
  | 3 => simp at hk hs hs'; subst hk hs hs'; exact ⟨c, s4⟩
  | j + 4 => simp at hk
/-- Where a round stands. -/
def LvRel (ps : List PtM) (l : List Nd) (n : Nat) (gF : Nat) (w : World) (k : Nat) (wr : World) : Prop :=
  ∃ fk : FrM, k ≤ l.length ∧ Hid (fk.er.Calm ∧ fk.er.ps = ps.map PtM.er ∧ fk.er.pl = l ∧ fk.er.wk.length = n ∧ fk.er.dn.count true = k) ∧ FB wr w.heap.size gF fk ∧ Below w.heap.size w wr

set_option maxHeartbeats 40000000 in
theorem farmLives_any (A A1 A3 : Option Addr) (c c1 c3 : Nat) (ps : List PtM) (picks : List Int) (nw : Int) (who : List Int) (w : World) (hp : PtsAt w w.heap.size A ps) (hpm : ps.length ≤ 9223372036854775807)
    (h1 : Reads w w.heap.size 1 A1 picks.length (intsV picks)) (hm1 : picks.length ≤ 9223372036854775807) (h3 : Reads w w.heap.size 1 A3 who.length (intsV who)) (hm3 : who.length ≤ 9223372036854775807)
    (hwb : ∀ x ∈ who, -9223372036854775808 ≤ x ∧ x ≤ 9223372036854775807) :
    Calls Try.prog 6 #[.slice A ps.length c, .slice A1 picks.length c1, .int .i64 nw, .slice A3 who.length c3] w fun e w' => e = .returned (.bool true) ∧ Below w.heap.size w w' := by
  obtain ⟨l, x, HL⟩ : ∃ l x, Hid (makeRes ps.length picks = (l, x)) := ⟨_, _, rfl⟩
  have HWB := Lib.hid hwb
  have H3 := Lib.hid h3
  have HP := Lib.hid hp
  clear hwb
  go_enter Try.func6, Try.ntmps6
  go_wp2_with fail
  refine (make_any ps.length A1 c1 picks w h1 hm1).mono ?_
  rintro e w1 ⟨v, rfl, ⟨Al, cl, rfl, hcl, rl⟩, hb1⟩
  rw [HL.out] at rl ⊢
  dsimp only at rl ⊢
  have hp1 := hp.keep hb1 hb1.size
  clear h1 hm1 h3 hp
  go_wp2_with fail
  refine (farmed_any w1).mono ?_
  rintro e w2 ⟨rfl, hb2⟩
  have rl2 := (rl.below hb2).more hb2.size
  have hp2 := hp1.keep hb2 hb2.size
  have hB2 := hb1.trans (hb2.mono hb1.size)
  clear rl hp1 hb1 hb2
  by_cases hx : x = 0
  · subst hx
    go_wp2_with fail
    refine (new_any A Al c cl ps l nw w2 hp2 hpm rl2 (by have := (ckPlan_zero (make_plan HL.out)).2.2.1; omega)).mono ?_
    rintro e w3 ⟨f, rfl, hO, hE, hb3⟩
    have hp3 := hp2.keep hb3 hb3.size
    have rl3 := (rl2.below hb3).more hb3.size
    have hB3 := hB2.trans (hb3.mono hB2.size)
    have hO3 := hO.mono hB2.size
    obtain ⟨r, hr⟩ : ∃ r, newP (ps.map PtM.er) l nw = r := ⟨_, rfl⟩
    rw [hr] at hE ⊢
    obtain ⟨r1, n⟩ := r
    dsimp only at hE ⊢
    have HR := Lib.hid hr
    have HE := Lib.hid hE
    clear hr hE hp2 rl2 hB2 hO
    by_cases hn : n = 0
    · subst hn
      go_upto_region 7 with (fail)
      have hs3 : Below w3.heap.size w3 (w3.alloc (.cells #[.slice f.pa f.ps.length f.pc, .slice f.la f.pl.length f.lc, .int .i64 f.now, .slice f.da f.dn.length f.dc, .slice f.ha f.hv.length f.hc, .slice f.ga f.gs.length f.gc, .slice f.wa f.wk.length f.wc, .slice f.na f.nt.length f.nc] 29)) := by (repeat' (first | exact Below.refl _ _ | assumption | refine Below.setCell ?_ (by first | omega | exact Below.size (by assumption) | (simp; done) | (simp; omega)) _ | refine Below.alloc ?_ (by first | omega | exact Below.size (by assumption) | (simp; done) | (simp; omega)) _ | refine Below.drew ?_ | refine below_drewN ?_ _))
      have kF := Blk.new w3 29 #[.slice f.pa f.ps.length f.pc, .slice f.la f.pl.length f.lc, .int .i64 f.now, .slice f.da f.dn.length f.dc, .slice f.ha f.hv.length f.hc, .slice f.ga f.gs.length f.gc, .slice f.wa f.wk.length f.wc, .slice f.na f.nt.length f.nc]
      have hO4 := hO3.alloc (.cells #[.slice f.pa f.ps.length f.pc, .slice f.la f.pl.length f.lc, .int .i64 f.now, .slice f.da f.dn.length f.dc, .slice f.ha f.hv.length f.hc, .slice f.ga f.gs.length f.gc, .slice f.wa f.wk.length f.wc, .slice f.na f.nt.length f.nc] 29)
      have hp4 := hp3.keep hs3 hs3.size
      have rl4 := (rl3.below hs3).more hs3.size
      have hB4 := hB3.trans (hs3.mono hB3.size)
      have hgl : w.heap.size ≤ w3.heap.size := hB3.size
      obtain ⟨gF, hgF⟩ : ∃ g, g = w3.heap.size := ⟨_, rfl⟩
      obtain ⟨w4, hw4⟩ : ∃ y, y = w3.alloc (.cells #[.slice f.pa f.ps.length f.pc, .slice f.la f.pl.length f.lc, .int .i64 f.now, .slice f.da f.dn.length f.dc, .slice f.ha f.hv.length f.hc, .slice f.ga f.gs.length f.gc, .slice f.wa f.wk.length f.wc, .slice f.na f.nt.length f.nc] 29) := ⟨_, rfl⟩
      rw [← hgF] at kF hgl ⊢
      rw [← hw4] at kF hO4 hp4 rl4 hB4 ⊢
      clear hw4 hgF hs3 hO3 hp3 rl3 hB3 hb3
      obtain ⟨hck, hn1, hn4, hpo, hnf⟩ := newP_zero (parts := ps.map PtM.er) (l := l) (workers := nw) (by rw [HR.out])
      have hfE : f.er = newF (ps.map PtM.er) l nw.toNat := by rw [HE.out, ← hnf, HR.out]
      have hCalm : f.er.Calm := by rw [hfE]; exact new_calm hck (by omega) (by omega) hpo
      have h0c : f.er.dn.count true = 0 := by rw [hfE]; exact new_count _ _ _
      have h0p : f.er.ps = ps.map PtM.er := by rw [hfE]; rfl
      have h0l : f.er.pl = l := by rw [hfE]; rfl
      obtain ⟨m, hm⟩ : ∃ m : Nat, nw = m := ⟨nw.toNat, by omega⟩
      have h0w : f.er.wk.length = m := by rw [hfE, hm]; simp [newF]
      subst hm
      have H0 : Hid (f.er.Calm ∧ f.er.ps = ps.map PtM.er ∧ f.er.pl = l ∧ f.er.wk.length = m ∧ f.er.dn.count true = 0) := ⟨hCalm, h0p, h0l, h0w, h0c⟩
      have hlm : l.length ≤ 23 := by have a := (ckPlan_zero hck).2.2.1; omega
      have hmm : 1 ≤ m ∧ m ≤ 4 := by omega
      clear hCalm h0c h0p h0l h0w hfE hck hn1 hn4 hpo hnf HE HR
      have EV := Lib.hid (eval_any Al A cl c l ps w4 rl4 (by omega) hp4 hpm)
      obtain ⟨r2, hr2⟩ : ∃ r, evalRes l (ps.map PtM.er) = r := ⟨_, rfl⟩
      rw [hr2] at EV
      obtain ⟨r2l, n2⟩ := r2
      have HEV := Lib.hid hr2
      clear hr2
      go_wp2_with fail
      refine EV.out.mono ?_
      rintro e w5 ⟨z, qs, rfl, _, _, hb5⟩
      have kF5 := kF.all hb5
      have hO5 := hO4.all hb5
      have hB5 := hB4.trans (hb5.mono hB4.size)
      clear EV kF hO4 hp4 rl4 hB4 hb5
      dsimp only
      by_cases h2 : n2 = 0
      · subst h2
        have hFB : FB w5 w.heap.size gF f := ⟨kF5, hO5, hgl⟩
        clear kF5 hO5
        go_wp2_with fail
        go_loopw [56] (fun i wr => ∃ k : Nat, i = .int .i64 k ∧ LvRel ps l m gF w k wr) (fun i _ => l.length - (intOf i).toNat)
        case atStart => exact ⟨0, rfl, f, Nat.zero_le _, H0, hFB, hB5⟩
        case round =>
          clear H0 hFB
          obtain ⟨k, rfl, fk, hk, HK, hF, hB⟩ := hrel
          by_cases hlt : k < l.length
          · have h3k := (H3.out.below hB).more hB.size
            have hWL := hB.size
            have hlen : fk.er.dn.length = l.length := by have := HK.out.1.fine.ld; rw [HK.out.2.2.1] at this; exact this
            have HRS : Hid (∀ wi : Int, 0 ≤ wi → wi < (m : Int) → ∃ S g, RoundS fk.er S wi ∧ S[4]? = some g ∧ g.Calm ∧ g.dn.count true = k + 1 ∧ g.ps = ps.map PtM.er ∧ g.pl = l ∧ g.wk.length = m) := fun wi h0 h1 => by
              obtain ⟨hC, e1, e2, e3, e4⟩ := HK.out
              obtain ⟨S, g, a1, a2, a3, a4, a5, a6, a7⟩ := round_states hC (by rw [e1, e2, HEV.out]) (by rw [e4, hlen]; exact hlt) h0 (by rw [e3]; exact h1)
              exact ⟨S, g, a1, a2, a3, by rw [a4, e4], by rw [a5, e1], by rw [a6, e2], by rw [a7, e3]⟩
            clear hlen HK
            go_upto_if 61 with (fail)
            go_cut [15] (fun s wx => ∃ wi : Int, s = .int .i64 wi ∧ 0 ≤ wi ∧ wi < (m : Int) ∧ Below wr.heap.size wr wx)
            case first =>
              clear hF HRS
              by_cases hw0 : who.length = 0
              · have z0 : decide ((0 : Int) < (who.length : Int)) = false := decide_eq_false (by omega)
                go_wp2
                go_meet
                exact ⟨0, rfl, by omega, by omega, Below.refl _ _⟩
              · have z0 : decide ((0 : Int) < (who.length : Int)) = true := decide_eq_true (by omega)
                have hz1 : ((who.length : Int) == 0) = false := beq_eq_false_iff_ne.2 (by omega)
                obtain ⟨i1, hi1⟩ : ∃ i1, k % who.length = i1 := ⟨_, rfl⟩
                have hi1l : i1 < who.length := by rw [← hi1]; exact Nat.mod_lt _ (by omega)
                have hm2 : (k : Int).tmod (who.length : Int) = (i1 : Int) := by rw [← Int.ofNat_tmod, hi1]
                obtain ⟨b4, o4, u, rfl, hb4', hu, hc4⟩ := h3k.at_ hi1l
                obtain ⟨x, hx⟩ : ∃ x, who[i1]? = some x := ⟨_, List.getElem?_eq_getElem hi1l⟩
                rw [show (intsV who)[i1]? = some (.int .i64 x) by simp only [intsV, List.getElem?_map, hx]; rfl] at hu
                cases hu
                have hxb := HWB.out x (List.mem_of_getElem? hx)
                have h0x := Int.emod_nonneg x (show (m : Int) ≠ 0 by omega)
                have h1x := Int.emod_lt_of_pos x (show (0 : Int) < (m : Int) by omega)
                obtain ⟨r, hr⟩ : ∃ r, x % (m : Int) = r := ⟨_, rfl⟩
                rw [hr] at h0x h1x
                have AT := Lib.hid (fun W => at_any x m W (by omega) (by omega) hxb.1 hxb.2)
                rw [hr] at AT
                clear hi1 hx hr hxb
                go_wp2_with fail
                refine (AT.out _).mono ?_
                rintro e w7 ⟨rfl, hw7⟩
                subst w7
                clear AT
                go_wp2
                go_meet
                exact ⟨r, rfl, h0x, h1x, by (repeat' (first | exact Below.refl _ _ | assumption | refine Below.setCell ?_ (by first | omega | exact Below.size (by assumption) | (simp; done) | (simp; omega)) _ | refine Below.alloc ?_ (by first | omega | exact Below.size (by assumption) | (simp; done) | (simp; omega)) _ | refine Below.drew ?_ | refine below_drewN ?_ _))⟩
            case rest =>
              obtain ⟨wi, rfl, hwi0, hwi1, hbx⟩ := hcut
              obtain ⟨S, g, hRS, hS4, gC⟩ := HRS.out wi hwi0 hwi1
              have HRS := Lib.hid hRS
              have HS4 := Lib.hid hS4
              have HGC := Lib.hid gC
              replace hF := hF.all hbx
              replace hB := hB.trans (hbx.mono hB.size)
              clear hRS hS4 gC hwi0 hwi1 hbx h3k hWL
              go_upto_region 17 with (fail)
              have kK := Blk.new wc 3 #[.int .i64 1, .int .i64 3, .int .i64 2, .int .i64 3]
              have hs : Below wc.heap.size wc (wc.alloc (.cells #[.int .i64 1, .int .i64 3, .int .i64 2, .int .i64 3] 3)) := by (repeat' (first | exact Below.refl _ _ | assumption | refine Below.setCell ?_ (by first | omega | exact Below.size (by assumption) | (simp; done) | (simp; omega)) _ | refine Below.alloc ?_ (by first | omega | exact Below.size (by assumption) | (simp; done) | (simp; omega)) _ | refine Below.drew ?_ | refine below_drewN ?_ _))
              have hF1 := hF.all hs
              have hB1 := hB.trans (hs.mono hB.size)
              obtain ⟨gK, hgK⟩ : ∃ y, y = wc.heap.size := ⟨_, rfl⟩
              obtain ⟨w7, hw7⟩ : ∃ y, y = wc.alloc (.cells #[.int .i64 1, .int .i64 3, .int .i64 2, .int .i64 3] 3) := ⟨_, rfl⟩
              have hlt0 := hF.blk.lt
              rw [← hgK] at kK hlt0 ⊢
              rw [← hw7] at kK hF1 hB1 ⊢
              clear hw7 hgK hs hF hB
              have hneK : gK ≠ gF := by omega
              have H0 : Hid (S[0]? = some fk.er) := HRS.out.2.1
              go_loopw [73] (fun i wz => ∃ (j : Nat) (fj : FrM), j ≤ 4 ∧ i = .int .i64 j ∧ Hid (S[j]? = some fj.er) ∧ FB wz w.heap.size gF fj ∧ Blk wz gK 3 #[.int .i64 1, .int .i64 3, .int .i64 2, .int .i64 3] ∧ Below w.heap.size w wz) (fun i _ => 4 - (intOf i).toNat)
              case atStart => exact ⟨0, fk, by omega, rfl, H0, hF1, kK, hB1⟩
              case round =>
                clear hF1 hB1 kK H0
                obtain ⟨j, fj, hj, rfl, HJ, hF, kK, hB⟩ := hrel
                by_cases hlj : j < 4
                · obtain ⟨kj, hkj⟩ : ∃ kj, [(1 : Int), 3, 2, 3][j]? = some kj := ⟨_, List.getElem?_eq_getElem (by simpa using hlj)⟩
                  have rk : Reads wr wr.heap.size 1 (some ⟨gK, 0, none⟩) 4 (intsV [1, 3, 2, 3]) := kK.reads (size := 1) (n := 4) rfl
                  obtain ⟨b4, o4, u, hbe, _, hu, hc4⟩ := rk.at_ hlj
                  injection hbe with hbe
                  injection hbe with e1 e2
                  subst e1 e2
                  rw [show (intsV [1, 3, 2, 3])[j]? = some (.int .i64 kj) by simp only [intsV, List.getElem?_map, hkj]; rfl] at hu
                  cases hu
                  rw [Nat.zero_add] at hc4
                  have hkj4 : (j : Int) < 4 := by omega
                  obtain ⟨s', hs'⟩ : ∃ s', S[j + 1]? = some s' := ⟨_, List.getElem?_eq_getElem (by have := HRS.out.1; omega)⟩
                  obtain ⟨hFj, hst⟩ := HRS.out.2.2 j kj _ _ hkj HJ.out hs'
                  have HD : Hid (doP fj.er ⟨kj, wi, 0⟩ = (s', 0)) := doP_ok hFj.ck (by rw [show (⟨kj, wi, 0⟩ : Hap) = hapOf kj wi from rfl, hst]) |>.trans (by rw [show (⟨kj, wi, 0⟩ : Hap) = hapOf kj wi from rfl, hst])
                  have HS' := Lib.hid hs'
                  clear hkj rk hs' hFj hst
                  go_upto_region 19 with (fail)
                  clear hc4
                  have kF := hF.blk
                  have hO0 := hF.own
                  (have DO := Lib.hid (do_any fj ⟨kj, wi, 0⟩ wr hO0.at_); rw [HD.out] at DO; (have q0 := (kF).cell 0; have q1 := (kF).cell 1; have q2 := (kF).cell 2; have q3 := (kF).cell 3; have q4 := (kF).cell 4; have q5 := (kF).cell 5; have q6 := (kF).cell 6; have q7 := (kF).cell 7); go_wp2_with fail; refine DO.out.mono ?_; rintro e w1 ⟨f2, rfl, hO, HE, hb1⟩; dsimp only at HE ⊢; (clear q0 q1 q2 q3 q4 q5 q6 q7); clear DO HD)
                  have hlo := hF.lo
                  have hO2 := (hO.mono hB.size).alloc (.cells #[.slice f2.pa f2.ps.length f2.pc, .slice f2.la f2.pl.length f2.lc, .int .i64 f2.now, .slice f2.da f2.dn.length f2.dc, .slice f2.ha f2.hv.length f2.hc, .slice f2.ga f2.gs.length f2.gc, .slice f2.wa f2.wk.length f2.wc, .slice f2.na f2.nt.length f2.nc] 29)
                  have hE2 := Lib.hid HE
                  go_upto_region 22 with (fail)
                  have hs := hb1.alloc hb1.size (.cells #[.slice f2.pa f2.ps.length f2.pc, .slice f2.la f2.pl.length f2.lc, .int .i64 f2.now, .slice f2.da f2.dn.length f2.dc, .slice f2.ha f2.hv.length f2.hc, .slice f2.ga f2.gs.length f2.gc, .slice f2.wa f2.wk.length f2.wc, .slice f2.na f2.nt.length f2.nc] 29)
                  have kG := Blk.new w1 29 #[.slice f2.pa f2.ps.length f2.pc, .slice f2.la f2.pl.length f2.lc, .int .i64 f2.now, .slice f2.da f2.dn.length f2.dc, .slice f2.ha f2.hv.length f2.hc, .slice f2.ga f2.gs.length f2.gc, .slice f2.wa f2.wk.length f2.wc, .slice f2.na f2.nt.length f2.nc]
                  have kF2 := kF.all hs
                  have kK2 := kK.all hs
                  have hB2 := hB.trans (hs.mono hB.size)
                  obtain ⟨gG, hgG⟩ : ∃ y, y = w1.heap.size := ⟨_, rfl⟩
                  obtain ⟨w8, hw8⟩ : ∃ y, y = w1.alloc (.cells #[.slice f2.pa f2.ps.length f2.pc, .slice f2.la f2.pl.length f2.lc, .int .i64 f2.now, .slice f2.da f2.dn.length f2.dc, .slice f2.ha f2.hv.length f2.hc, .slice f2.ga f2.gs.length f2.gc, .slice f2.wa f2.wk.length f2.wc, .slice f2.na f2.nt.length f2.nc] 29) := ⟨_, rfl⟩
                  rw [← hgG] at kG ⊢
                  rw [← hw8] at kG kF2 kK2 hO2 hB2 ⊢
                  clear hw8 hgG hs hF hO hb1 HE kF kK hO0 hB
                  (have q0 := (kG).cell 0; have q1 := (kG).cell 1; have q2 := (kG).cell 2; have q3 := (kG).cell 3; have q4 := (kG).cell 4; have q5 := (kG).cell 5; have q6 := (kG).cell 6; have q7 := (kG).cell 7)
                  (have r0 := (kF2).cell 0; have r1 := (kF2).cell 1; have r2 := (kF2).cell 2; have r3 := (kF2).cell 3; have r4 := (kF2).cell 4; have r5 := (kF2).cell 5; have r6 := (kF2).cell 6; have r7 := (kF2).cell 7)
                  (have z0 := (kF2).frozen 0; have z1 := (kF2).frozen 1; have z2 := (kF2).frozen 2; have z3 := (kF2).frozen 3; have z4 := (kF2).frozen 4; have z5 := (kF2).frozen 5; have z6 := (kF2).frozen 6; have z7 := (kF2).frozen 7)
                  go_upto_region 23 with (fail)
                  have hF3 : FB ((((((((w8.setCell ⟨gF, 0, none⟩ (.slice f2.pa f2.ps.length f2.pc)).setCell ⟨gF, 1, none⟩ (.slice f2.la f2.pl.length f2.lc)).setCell ⟨gF, 2, none⟩ (.int .i64 f2.now)).setCell ⟨gF, 3, none⟩ (.slice f2.da f2.dn.length f2.dc)).setCell ⟨gF, 4, none⟩ (.slice f2.ha f2.hv.length f2.hc)).setCell ⟨gF, 5, none⟩ (.slice f2.ga f2.gs.length f2.gc)).setCell ⟨gF, 6, none⟩ (.slice f2.wa f2.wk.length f2.wc)).setCell ⟨gF, 7, none⟩ (.slice f2.na f2.nt.length f2.nc)) w.heap.size gF f2 := ⟨kF2.put8 f2, hO2.put8 kF2 f2, hlo⟩
                  have kK3 := kK2.far8 hneK f2
                  have hB3 := below_put8 hB2 hlo f2
                  obtain ⟨w9, hw9⟩ : ∃ y, y = ((((((((w8.setCell ⟨gF, 0, none⟩ (.slice f2.pa f2.ps.length f2.pc)).setCell ⟨gF, 1, none⟩ (.slice f2.la f2.pl.length f2.lc)).setCell ⟨gF, 2, none⟩ (.int .i64 f2.now)).setCell ⟨gF, 3, none⟩ (.slice f2.da f2.dn.length f2.dc)).setCell ⟨gF, 4, none⟩ (.slice f2.ha f2.hv.length f2.hc)).setCell ⟨gF, 5, none⟩ (.slice f2.ga f2.gs.length f2.gc)).setCell ⟨gF, 6, none⟩ (.slice f2.wa f2.wk.length f2.wc)).setCell ⟨gF, 7, none⟩ (.slice f2.na f2.nt.length f2.nc)) := ⟨_, rfl⟩
                  rw [← hw9] at hF3 kK3 hB3 ⊢
                  clear hw9 kG kF2 kK2 hO2 hB2 q0 q1 q2 q3 q4 q5 q6 q7 r0 r1 r2 r3 r4 r5 r6 r7 z0 z1 z2 z3 z4 z5 z6 z7
                  have HJ2 : Hid (S[j + 1]? = some f2.er) := by show _ = _; rw [HS'.out, hE2.out]
                  go_wp2
                  go_roundw
                  case rel => exact ⟨j + 1, f2, by omega, by go_num, HJ2, hF3, kK3, hB3⟩
                  case measure => simp [intOf]; omega
                · obtain rfl : j = 4 := by omega
                  have HK2 : Hid (fj.er.Calm ∧ fj.er.ps = ps.map PtM.er ∧ fj.er.pl = l ∧ fj.er.wk.length = m ∧ fj.er.dn.count true = k + 1) := by
                    have e := HJ.out
                    rw [HS4.out] at e
                    injection e with e
                    obtain ⟨a1, a2, a3, a4, a5⟩ := HGC.out
                    rw [← e]
                    exact ⟨a1, a3, a4, a5, a2⟩
                  go_wp2
                  go_roundw
                  case rel => exact ⟨k + 1, by go_num, fj, by omega, HK2, hF, hB⟩
                  case measure => simp [intOf]; omega
          · obtain rfl : k = l.length := by omega
            have hO := hF.own
            have kF := hF.blk
            have hp7 := HP.out.keep hB hB.size
            obtain ⟨hC, e1, e2, e3, e4⟩ := HK.out
            have hdl : fk.er.dn.length = l.length := by have := hC.fine.ld; rw [e2] at this; exact this
            have hlp : 0 < l.length := by have a := plan_pos hC.fine.pl; rw [e2] at a; exact a
            have hgd : fk.er.dn.getD (fk.er.pl.length - 1) false = true := count_all (by rw [e4, hdl]) (by rw [e2]; omega)
            obtain ⟨_, _, _, t, _, eT, eF⟩ := make_form HL.out
            obtain ⟨he1, he2⟩ := honest_end hC.fine hC.honest (t := t) (by rw [e1]; simp only [List.length_map]; omega) (by rw [e2]; exact eF) hgd
            have e9 : outP fk.er = (joinL (ps.map PtM.er), 0) := by
              unfold outP
              rw [if_neg (fun hn => hn hC.fine.ck), if_neg (by rw [hgd]; simp), he1, e1]
            rw [e1] at he2
            have HE2 := Lib.hid he2
            have OC := Lib.hid (outcome_any fk wr hO.at_)
            rw [e9] at OC
            clear e9 hgd eT eF he1 he2 hC e1 e2 e3 e4 hdl hlp hF HK
            (have q0 := (kF).cell 0; have q1 := (kF).cell 1; have q2 := (kF).cell 2; have q3 := (kF).cell 3; have q4 := (kF).cell 4; have q5 := (kF).cell 5; have q6 := (kF).cell 6; have q7 := (kF).cell 7)
            go_wp2_with fail
            refine OC.out.mono ?_
            rintro e w8 ⟨po, rfl, oo, eo, hb8⟩
            dsimp only at eo ⊢
            have hB8 := hB.trans (hb8.mono hB.size)
            have hp8 := hp7.keep hb8 hb8.size
            clear q0 q1 q2 q3 q4 q5 q6 q7 OC kF hO
            go_upto_region 26 with (fail)
            have hsx : Below w8.heap.size w8 (w8.alloc (.cells #[.slice po.fa po.frs.length po.fc, .slice po.da po.dfs.length po.dc] 44)) := by (repeat' (first | exact Below.refl _ _ | assumption | refine Below.setCell ?_ (by first | omega | exact Below.size (by assumption) | (simp; done) | (simp; omega)) _ | refine Below.alloc ?_ (by first | omega | exact Below.size (by assumption) | (simp; done) | (simp; omega)) _ | refine Below.drew ?_ | refine below_drewN ?_ _))
            have kO := Blk.new w8 44 #[.slice po.fa po.frs.length po.fc, .slice po.da po.dfs.length po.dc]
            have oo9 := (oo.mono (Nat.zero_le _)).alloc (.cells #[.slice po.fa po.frs.length po.fc, .slice po.da po.dfs.length po.dc] 44)
            replace hB8 := hB8.trans (hsx.mono hB8.size)
            replace hp8 := hp8.keep hsx hsx.size
            obtain ⟨gO, hgO⟩ : ∃ x, x = w8.heap.size := ⟨_, rfl⟩
            obtain ⟨w9, hw9⟩ : ∃ y, y = w8.alloc (.cells #[.slice po.fa po.frs.length po.fc, .slice po.da po.dfs.length po.dc] 44) := ⟨_, rfl⟩
            rw [← hgO] at kO ⊢
            rw [← hw9] at kO oo9 hB8 hp8 ⊢
            clear hw9 hgO hsx
            have AL := Lib.hid (all_any A c ps w9 hp8 hpm)
            rw [HE2.out] at AL
            go_wp2_with fail
            refine AL.out.mono ?_
            rintro e w10 ⟨pq, rfl, oq, eq, hb10⟩
            dsimp only at eq ⊢
            have HYE : Hid (decide (po.er = pq.er) = true) := decide_eq_true (eo.trans eq.symm)
            replace hB8 := hB8.trans (hb10.mono hB8.size)
            replace kO := kO.all hb10
            have hPO := oo9.at_.all hb10
            go_upto_region 27 with (fail)
            have hsx : Below w10.heap.size w10 (w10.alloc (.cells #[.slice pq.fa pq.frs.length pq.fc, .slice pq.da pq.dfs.length pq.dc] 44)) := by (repeat' (first | exact Below.refl _ _ | assumption | refine Below.setCell ?_ (by first | omega | exact Below.size (by assumption) | (simp; done) | (simp; omega)) _ | refine Below.alloc ?_ (by first | omega | exact Below.size (by assumption) | (simp; done) | (simp; omega)) _ | refine Below.drew ?_ | refine below_drewN ?_ _))
            have kQ := Blk.new w10 44 #[.slice pq.fa pq.frs.length pq.fc, .slice pq.da pq.dfs.length pq.dc]
            have oq9 := ((oq.mono (Nat.zero_le _)).alloc (.cells #[.slice pq.fa pq.frs.length pq.fc, .slice pq.da pq.dfs.length pq.dc] 44)).at_
            replace hB8 := hB8.trans (hsx.mono hB8.size)
            replace kO := kO.all hsx
            replace hPO := hPO.all hsx
            obtain ⟨gQ, hgQ⟩ : ∃ x, x = w10.heap.size := ⟨_, rfl⟩
            obtain ⟨w11, hw11⟩ : ∃ y, y = w10.alloc (.cells #[.slice pq.fa pq.frs.length pq.fc, .slice pq.da pq.dfs.length pq.dc] 44) := ⟨_, rfl⟩
            rw [← hgQ] at kQ ⊢
            rw [← hw11] at kO kQ oq9 hPO hB8 ⊢
            clear hw11 hgQ hsx
            have SM := Lib.hid (same_any po pq w11 hPO oq9)
            rw [HYE.out] at SM
            have o0 := kO.cell 0
            have o1 := kO.cell 1
            have p0 := kQ.cell 0
            have p1 := kQ.cell 1
            go_wp2_with fail
            refine SM.out.mono ?_
            rintro e w12 ⟨rfl, hb12⟩
            have hBx := hB8.trans (hb12.mono hB8.size)
            go_wp2
            go_ret
            exact ⟨rfl, hBx⟩
      · have t1 : (n2 != 0) = true := by simpa using h2
        clear h2
        go_wp2
        go_ret
        exact ⟨rfl, hB5⟩
    · have t1 : (n != 0) = true := by simpa using hn
      have hB4 := hB3.alloc hB3.size (.cells #[.slice f.pa f.ps.length f.pc, .slice f.la f.pl.length f.lc, .int .i64 f.now, .slice f.da f.dn.length f.dc, .slice f.ha f.hv.length f.hc, .slice f.ga f.gs.length f.gc, .slice f.wa f.wk.length f.wc, .slice f.na f.nt.length f.nc] 29)
      clear hn hp3 rl3
      go_wp2
      go_ret
      exact ⟨rfl, hB4⟩
  · have t1 : (x != 0) = true := by simpa using hx
    clear hx rl2 hp2
    go_wp2_with fail
    refine (farmed_any w2).mono ?_
    rintro e w3 ⟨rfl, hb3⟩
    go_wp2
    go_ret
    exact ⟨rfl, hB2.trans (hb3.mono hB2.size)⟩
end Go.Proofs.Ytkfmkemjoddinaa
