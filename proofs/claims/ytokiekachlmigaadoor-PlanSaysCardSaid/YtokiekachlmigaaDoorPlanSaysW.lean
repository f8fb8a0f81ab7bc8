/- ropewalklaw.PlanSays: it answers true. -/
import Derived.Test.YtokiekachlmigaaDoorRefEval
import Derived.Test.YtokiekachlmigaaDoorRefReady
import Derived.Test.YtokiekachlmigaaDoorRefPlanned
import Derived.Test.YtokiekachlmigaaDoorRefCheck
import Derived.Test.YtokiekachlmigaaDoorEqS
import Derived.Test.YtokiekachlmigaaDoorEvalW
import Derived.Test.YtokiekachlmigaaDoorPlanned
import Derived.Test.YtokiekachlmigaaDoorPlK
import Derived.Deep.CutBlock
set_option linter.all false
namespace Go.Proofs.YtokiekachlmigaaDoor
open Go.RowKit
set_option maxRecDepth 100000

theorem evalUp_err (parts : List Prt) : ∀ (l : List Nd) (out : List Prt), (evalUp parts out l).2 ≠ 0 → (evalUp parts out l).1 = []
  | [], out, h => absurd rfl h
  | x :: r, out, h => by
    by_cases h0 : 0 ≤ x.leaf
    · rw [evalUp_leaf h0] at h ⊢; exact evalUp_err parts r _ h
    · by_cases hj : (joinP (out.getD x.left.toNat .nil) (out.getD x.right.toNat .nil)).2 = 0
      · rw [evalUp_ok h0 hj] at h ⊢; exact evalUp_err parts r _ h
      · rw [evalUp_bad h0 hj]
theorem evalRes_err (l : List Nd) (parts : List Prt) (h : (evalRes l parts).2 ≠ 0) : (evalRes l parts).1 = [] := by
  by_cases h1 : ckPlan l parts.length = 0
  · by_cases h2 : firstBad (parts.map ckPart) = 0
    · rw [evalRes_go h1 h2] at h ⊢; exact evalUp_err parts l [] h
    · rw [evalRes_part h1 h2]
  · rw [evalRes_plan h1]
theorem PtsAt.none (w : World) (B : Nat) : PtsAt w B none [] := ⟨Reads.none_, fun q hq => absurd hq (by simp)⟩
theorem evalIs_row {w : World} {r : List Prt × Int} {e : Ending} {w' : World} (h : EvalIs w r e w') (he : r.2 ≠ 0 → r.1 = []) :
    ∃ (A : Option Addr) (c : Nat) (qs : List PtM), e = .returned (.tuple #[.slice A qs.length c, .int .i64 r.2]) ∧ PtsAt w' w'.heap.size A qs ∧ qs.length ≤ 9223372036854775807 ∧ qs.map PtM.er = r.1 ∧ Below w.heap.size w w' := by
  obtain ⟨z, qs, rfl, h1, h2, hb⟩ := h
  by_cases h0 : r.2 = 0
  · obtain ⟨ho, hq, hm⟩ := h2 h0
    obtain ⟨A, c, rfl, i1, i2⟩ := own_form ho
    exact ⟨A, c, qs, rfl, ⟨Reads.of_own ho, fun q hx => (hq q hx).at_⟩, by omega, hm, hb⟩
  · obtain rfl := h1 h0
    exact ⟨none, 0, [], rfl, PtsAt.none _ _, by simp, (he h0).symm, hb⟩
theorem refEvalIs_row {w : World} {r : List Prt × Int} {e : Ending} {w' : World} (h : RefEvalIs w r e w') (he : r.2 ≠ 0 → r.1 = []) :
    ∃ (A : Option Addr) (c : Nat) (qs : List PtM), e = .returned (.tuple #[.slice A qs.length c, .int .i64 r.2]) ∧ PtsAt w' w'.heap.size A qs ∧ qs.map PtM.er = r.1 ∧ Below w.heap.size w w' := by
  obtain ⟨z, qs, rfl, h1, h2, hb⟩ := h
  by_cases h0 : r.2 = 0
  · obtain ⟨ho, hm⟩ := h2 h0
    obtain ⟨A, c, rfl, i1, i2⟩ := own_form ho.hz
    exact ⟨A, c, qs, rfl, ⟨Reads.of_own ho.hz, fun q hx => ho.at_ hx⟩, hm, hb⟩
  · obtain rfl := h1 h0
    exact ⟨none, 0, [], rfl, PtsAt.none _ _, (he h0).symm, hb⟩

set_option maxHeartbeats 40000000 in
theorem planSays_any (A A1 A3 A4 : Option Addr) (c c1 c3 c4 : Nat) (l : List Nd) (ps : List PtM) (n : Int) (picks : List Int) (done : List Bool) (w : World)
    (hl : Reads w w.heap.size 3 A l.length (ndCells l)) (hlm : l.length ≤ 9223372036854775807) (hp : PtsAt w w.heap.size A1 ps) (hpm : ps.length ≤ 9223372036854775807)
    (hk : Reads w w.heap.size 1 A3 picks.length (intsV picks)) (hkc : picks.length ≤ c3) (hkm : picks.length ≤ 9223372036854775807) (hkb : ∀ x ∈ picks, -9223372036854775808 ≤ x ∧ x ≤ 9223372036854775807)
    (hd : Reads w w.heap.size 1 A4 done.length (boolsV done)) (hdm : done.length ≤ 9223372036854775807) :
    Calls Tryd.prog 6 #[.slice A l.length c, .slice A1 ps.length c1, .int .i64 n, .slice A3 picks.length c3, .slice A4 done.length c4] w fun e w' => e = .returned (.bool true) ∧ Below w.heap.size w w' := by
  obtain ⟨m, em, HM⟩ : ∃ y x, Hid (makeRes n picks = (y, x)) := ⟨_, _, rfl⟩
  obtain ⟨ev, ef, HEV⟩ : ∃ y x, Hid (evalRes l (ps.map PtM.er) = (y, x)) := ⟨_, _, rfl⟩
  obtain ⟨rr, eg, HRR⟩ : ∃ r x, Hid (readyRes l ps.length done = (r, x)) := ⟨_, _, rfl⟩
  obtain ⟨bd, HBD⟩ : ∃ x, Hid (ckPlan l ps.length = x) := ⟨_, rfl⟩
  obtain ⟨bn, HBN⟩ : ∃ x, Hid (ckPlan l n = x) := ⟨_, rfl⟩
  have HKB := Lib.hid hkb
  have hB := Below.refl w.heap.size w
  have e1 : (bd != bd) = false := by simp
  have e2 : (bn != bn) = false := by simp
  clear hkb
  have HV0 : Hid ((evalRes l (ps.map PtM.er)).2 ≠ 0 → (evalRes l (ps.map PtM.er)).1 = []) := evalRes_err _ _
  rw [HEV.out] at HV0
  go_enter Tryd.func6, Tryd.ntmps6
  go_wp2_with fail
  refine (make_any n A3 c3 picks w hk hkm).mono ?_
  rintro e w1 ⟨v, rfl, ⟨Am, cm, rfl, hcm, hmr⟩, hb1⟩
  rw [HM.out] at hmr ⊢
  dsimp only at hmr ⊢
  replace hl := (hl.below hb1).more hb1.size
  replace hp := hp.keep hb1 hb1.size
  replace hk := (hk.below hb1).more hb1.size
  replace hd := (hd.below hb1).more hb1.size
  replace hB := hB.trans (hb1.mono hB.size)
  clear hb1
  go_wp2_with fail
  refine (eval_any A A1 c c1 l ps w1 hl hlm hp hpm).mono ?_
  intro e w2 hev
  rw [HEV.out] at hev
  obtain ⟨Av, cv, qs, rfl, hv, hqm, hqe, hb2⟩ := evalIs_row hev HV0.out
  dsimp only at hqe ⊢
  replace hl := (hl.below hb2).more hb2.size
  replace hp := hp.keep hb2 hb2.size
  replace hk := (hk.below hb2).more hb2.size
  replace hd := (hd.below hb2).more hb2.size
  replace hmr := (hmr.below hb2).more hb2.size
  replace hB := hB.trans (hb2.mono hB.size)
  replace hqe := Lib.hid hqe
  clear hb2 hev
  go_wp2_with fail
  refine (ready_any A A4 c c4 l ps.length done w2 hl hd hlm hdm).mono ?_
  rintro e w3 ⟨v, rfl, ⟨Ar, cr, rfl, hcr, hrr⟩, hb3⟩
  rw [HRR.out] at hrr ⊢
  dsimp only at hrr ⊢
  replace hl := (hl.below hb3).more hb3.size
  replace hp := hp.keep hb3 hb3.size
  replace hk := (hk.below hb3).more hb3.size
  replace hd := (hd.below hb3).more hb3.size
  replace hmr := (hmr.below hb3).more hb3.size
  replace hv := hv.keep hb3 hb3.size
  replace hB := hB.trans (hb3.mono hB.size)
  clear hb3
  go_wp2_with fail
  refine (refPlan_any A c l ps.length w3 hl hlm).mono ?_
  rintro e w4 ⟨rfl, hb4⟩
  rw [HBD.out]
  (replace hl := (hl.below hb4).more (hb4).size; replace hp := hp.keep hb4 (hb4).size; (try replace hk := (hk.below hb4).more (hb4).size); replace hd := (hd.below hb4).more (hb4).size; (try replace hmr := (hmr.below hb4).more (hb4).size); (try replace hv := hv.keep hb4 (hb4).size); (try replace hrr := (hrr.below hb4).more (hb4).size); replace hB := hB.trans ((hb4).mono hB.size))
  clear hb4
  go_wp2_with fail
  refine (planned_any w4).mono ?_
  rintro e w5 ⟨rfl, hb5⟩
  (replace hl := (hl.below hb5).more (hb5).size; replace hp := hp.keep hb5 (hb5).size; (try replace hk := (hk.below hb5).more (hb5).size); replace hd := (hd.below hb5).more (hb5).size; (try replace hmr := (hmr.below hb5).more (hb5).size); (try replace hv := hv.keep hb5 (hb5).size); (try replace hrr := (hrr.below hb5).more (hb5).size); replace hB := hB.trans ((hb5).mono hB.size))
  clear hb5
  go_wp2_with fail
  refine (planCheck_any A c l ps.length w5 hl hlm).mono ?_
  rintro e w6 ⟨rfl, hb6⟩
  rw [HBD.out]
  (replace hl := (hl.below hb6).more (hb6).size; replace hp := hp.keep hb6 (hb6).size; (try replace hk := (hk.below hb6).more (hb6).size); replace hd := (hd.below hb6).more (hb6).size; (try replace hmr := (hmr.below hb6).more (hb6).size); (try replace hv := hv.keep hb6 (hb6).size); (try replace hrr := (hrr.below hb6).more (hb6).size); replace hB := hB.trans ((hb6).mono hB.size))
  clear hb6
  go_wp2_with fail
  refine (planCheck_any A c l n w6 hl hlm).mono ?_
  rintro e w7 ⟨rfl, hb7⟩
  rw [HBN.out]
  (replace hl := (hl.below hb7).more (hb7).size; replace hp := hp.keep hb7 (hb7).size; (try replace hk := (hk.below hb7).more (hb7).size); replace hd := (hd.below hb7).more (hb7).size; (try replace hmr := (hmr.below hb7).more (hb7).size); (try replace hv := hv.keep hb7 (hb7).size); (try replace hrr := (hrr.below hb7).more (hb7).size); replace hB := hB.trans ((hb7).mono hB.size))
  clear hb7
  go_wp2_with fail
  refine (refPlan_any A c l n w7 hl hlm).mono ?_
  rintro e w8 ⟨rfl, hb8⟩
  rw [HBN.out]
  (replace hl := (hl.below hb8).more (hb8).size; replace hp := hp.keep hb8 (hb8).size; (try replace hk := (hk.below hb8).more (hb8).size); replace hd := (hd.below hb8).more (hb8).size; (try replace hmr := (hmr.below hb8).more (hb8).size); (try replace hv := hv.keep hb8 (hb8).size); (try replace hrr := (hrr.below hb8).more (hb8).size); replace hB := hB.trans ((hb8).mono hB.size))
  clear hb8
  go_upto_block 0 with (fail)
  go_cut [10] (fun v wx => v = .bool false ∧ Below w8.heap.size w8 wx)
  case first =>
    have hb9 := Below.refl w8.heap.size w8
    by_cases hr : n < 1 ∨ 12 < n
    · have h2 := HM.out
      rw [makeRes_range hr] at h2
      injection h2 with hm he
      subst he
      have t3 : ((m.length : Int) != 0) = false := by rw [← hm]; rfl
      clear hm
      rcases Int.lt_or_le n 1 with h1 | h1
      · have t1 : decide (n < 1) = true := decide_eq_true h1
        clear h1 hr
        go_wp2
        go_meet
        exact ⟨rfl, hb9⟩
      · have t1 : decide (n < 1) = false := decide_eq_false (by omega)
        have t2 : decide (12 < n) = true := decide_eq_true (by omega)
        clear h1 hr
        go_wp2
        go_meet
        exact ⟨rfl, hb9⟩
    · have t1 : decide (n < 1) = false := decide_eq_false (by omega)
      have t2 : decide (12 < n) = false := decide_eq_false (by omega)
      by_cases hq : 23 < picks.length
      · have h2 := HM.out
        rw [makeRes_many hr hq] at h2
        injection h2 with hm he
        subst he
        have t3 : ((m.length : Int) != 0) = false := by rw [← hm]; rfl
        have t4 : decide ((23 : Int) < (picks.length : Int)) = true := decide_eq_true (by omega)
        clear hm hq hr
        go_wp2
        go_meet
        exact ⟨rfl, hb9⟩
      · have h2 := HM.out
        rw [makeRes_ok hr hq] at h2
        injection h2 with hm he
        subst he
        have t4 : decide ((23 : Int) < (picks.length : Int)) = false := decide_eq_false (by omega)
        obtain ⟨nn, hnn⟩ : ∃ nn : Nat, n = nn := ⟨n.toNat, by omega⟩
        rw [hnn, Int.toNat_natCast] at hm
        have i1 : 1 ≤ nn := by omega
        have i2 : nn ≤ 12 := by omega
        have RP := Lib.hid (refPlanned_any nn i1 i2 A3 c3 picks w8 hk hkm hkc HKB.out)
        rw [hm] at RP
        rw [← hnn] at RP
        have hmm : m.length ≤ 9223372036854775807 := by
          obtain ⟨_, _, _, t, _, e, eF⟩ := make_form (show makeRes n picks = (m, 0) from HM.out)
          have := make_plan (show makeRes n picks = (m, 0) from HM.out)
          have := (ckPlan_zero this).2.2.1
          omega
        have t5 : (!(m == m)) = false := by simp
        clear hm hnn hq hr i1 i2
        go_wp2_with fail
        refine RP.out.mono ?_
        rintro e w9 ⟨v, rfl, ho, hb9'⟩
        obtain ⟨Aw, cw, rfl, _, _⟩ := own_form ho
        have hmr9 := (hmr.below hb9').more hb9'.size
        have hw9 := Reads.of_own ho
        have hb9 := hb9.trans (hb9'.mono hb9.size)
        clear ho RP
        go_wp2_with fail
        refine (equalNodes_any Am Aw cm cw m m w9 hmr9 hw9 hmm).mono ?_
        rintro e w10 ⟨rfl, hb10⟩
        have hb9 := hb9.trans (hb10.mono hb9.size)
        clear hb10 hb9'
        rw [show (m == m) = true by simp]
        go_wp2
        go_meet
        exact ⟨rfl, hb9⟩
  case rest =>
    obtain ⟨rfl, hb9⟩ := hcut
    obtain ⟨w9, hw9⟩ : ∃ x, x = wc := ⟨_, rfl⟩
    subst hw9
    (replace hl := (hl.below hb9).more (hb9).size; replace hp := hp.keep hb9 (hb9).size; (try replace hk := (hk.below hb9).more (hb9).size); replace hd := (hd.below hb9).more (hb9).size; (try replace hmr := (hmr.below hb9).more (hb9).size); (try replace hv := hv.keep hb9 (hb9).size); (try replace hrr := (hrr.below hb9).more (hb9).size); replace hB := hB.trans ((hb9).mono hB.size))
    clear hb9 e1 e2 hk hmr hkm hkc HKB
    by_cases hbd : bd = 0
    · subst hbd
      have hz := ckPlan_zero HBD.out
      have h23 : l.length ≤ 23 := hz.2.2.1
      have h12 : ps.length ≤ 12 := by have := hz.2.1; omega
      have HC : Hid (ckPlan l ((ps.map PtM.er).length : Nat) = 0) := by show ckPlan l ((ps.map PtM.er).length : Nat) = 0; rw [List.length_map]; exact HBD.out
      clear hz
      go_upto_if 124 with (fail)
      go_cut [10] (fun v wx => v = .bool false ∧ Below w9.heap.size w9 wx)
      case first =>
        have hb9 := Below.refl w9.heap.size w9
        by_cases hdl : done.length = l.length
        · have h2 := HRR.out
          rw [readyRes_ok HBD.out hdl] at h2
          injection h2 with hr he
          subst he
          have t1 : ((done.length : Int) != (l.length : Int)) = false := by rw [hdl]; simp
          have IR := Lib.hid (isReady_any A A4 c c4 l ps.length done w9 hl hd HBD.out hdl)
          rw [hr] at IR
          have hrm : rr.length ≤ 9223372036854775807 := by
            have := readyUpto_len l done l.length
            rw [hr] at this
            omega
          clear hr hdl
          go_wp2_with fail
          refine IR.out.mono ?_
          rintro e w10 ⟨v, rfl, ho, hb10⟩
          obtain ⟨Aw, cw, rfl, _, _⟩ := own_form ho
          have hrr9 := (hrr.below hb10).more hb10.size
          have hw9 := Reads.of_own ho
          have hb9 := hb9.trans (hb10.mono hb9.size)
          clear ho IR
          go_wp2_with fail
          refine (equalInts_any Ar Aw cr cw rr rr w10 hrr9 hw9 hrm).mono ?_
          rintro e w11 ⟨rfl, hb11⟩
          have hb9 := hb9.trans (hb11.mono hb9.size)
          rw [show (rr == rr) = true by simp]
          clear hb10 hb11
          go_wp2
          go_meet
          exact ⟨rfl, hb9⟩
        · have h2 := HRR.out
          rw [readyRes_len HBD.out hdl] at h2
          injection h2 with hr he
          subst he
          have t1 : ((done.length : Int) != (l.length : Int)) = true := by simpa using (fun h => hdl (by omega) : ¬ ((done.length : Int) = (l.length : Int)))
          have t2 : ((rr.length : Int) != 0) = false := by rw [← hr]; rfl
          clear hr hdl
          go_wp2
          go_meet
          exact ⟨rfl, hb9⟩
      case rest =>
        obtain ⟨rfl, hb10⟩ := hcut
        obtain ⟨w10, hw10⟩ : ∃ x, x = wc := ⟨_, rfl⟩
        subst hw10
        (replace hl := (hl.below hb10).more (hb10).size; replace hp := hp.keep hb10 (hb10).size; (try replace hk := (hk.below hb10).more (hb10).size); replace hd := (hd.below hb10).more (hb10).size; (try replace hmr := (hmr.below hb10).more (hb10).size); (try replace hv := hv.keep hb10 (hb10).size); (try replace hrr := (hrr.below hb10).more (hb10).size); replace hB := hB.trans ((hb10).mono hB.size))
        clear hb10 hd hrr hdm
        have hrow := hp.row
        have HE := Lib.hid hp.each
        go_wp2_with fail
        go_loopw [144] (fun i wr => ∃ k : Nat, k ≤ ps.length ∧ i = .int .i64 k ∧ Hid (firstBad ((ps.map PtM.er).map ckPart) = firstBad (((ps.map PtM.er).map ckPart).drop k)) ∧ Below w10.heap.size w10 wr) (fun i _ => ps.length - (intOf i).toNat)
        case atStart => exact ⟨0, Nat.zero_le _, rfl, Lib.hid rfl, Below.refl _ _⟩
        case round =>
          obtain ⟨k, hk, rfl, hfb, hb⟩ := hrel
          by_cases hlt : k < ps.length
          · obtain ⟨p, hpk⟩ : ∃ p, ps[k]? = some p := ⟨_, List.getElem?_eq_getElem hlt⟩
            obtain ⟨b, off, rfl, bl, c0, c1'⟩ := pt_get (hrow.below hb) hpk
            have hpA := (HE.out p (List.mem_of_getElem? hpk)).keep hb hb.size
            have hck : ((ps.map PtM.er).map ckPart)[k]? = some (ckPart p.er) := by rw [List.getElem?_map, List.getElem?_map, hpk]; rfl
            have hs0 : Below wr.heap.size wr (wr.alloc (.cells #[.slice (p).fa (p).frs.length (p).fc, .slice (p).da (p).dfs.length (p).dc] 25)) := by (repeat' (first | exact Below.refl _ _ | assumption | refine Below.setCell ?_ (by first | omega | exact Below.size (by assumption) | (simp; done) | (simp; omega)) _ | refine Below.alloc ?_ (by first | omega | exact Below.size (by assumption) | (simp; done) | (simp; omega)) _ | refine Below.drew ?_ | refine below_drewN ?_ _))
            clear hpk
            go_wp2_with fail
            refine (refCheck_any p _ (hpA.all hs0)).mono ?_
            rintro e w2 ⟨rfl, hb2⟩
            have hb3 := hb.trans ((hs0.trans (hb2.mono hs0.size)).mono hb.size)
            clear c0 c1' hb2 hs0
            obtain ⟨n', hn⟩ : ∃ n, ckPart p.er = n := ⟨_, rfl⟩
            rw [hn] at hck ⊢
            clear hn
            by_cases hn0 : n' = 0
            · subst hn0
              have hfb2 : Hid (firstBad ((ps.map PtM.er).map ckPart) = firstBad (((ps.map PtM.er).map ckPart).drop (k + 1))) := hfb.out.trans (firstBad_next hck)
              clear hck
              go_wp2
              go_roundw
              case rel => exact ⟨k + 1, by omega, by go_num, hfb2, hb3⟩
              case measure => simp [intOf]; omega
            · have hE := hfb.out.trans (firstBad_drop hck hn0)
              have h2 := HEV.out
              rw [evalRes_part (l := l) HC.out (by rw [hE]; exact hn0), hE] at h2
              injection h2 with hv2 he2
              subst he2
              have t1 : (n' != 0) = true := by simpa using hn0
              have t2 : (n' == n') = true := by simp
              have q0 : qs.length = 0 := by have := congrArg List.length hqe.out; rw [← hv2] at this; simpa using this
              have hbf := hB.trans (hb3.mono hB.size)
              clear hck hn0 hE hv2 hqe
              rw [q0]
              clear q0
              go_wp2
              go_ret
              exact ⟨rfl, hbf⟩
          · obtain rfl : k = ps.length := by omega
            have hE : firstBad ((ps.map PtM.er).map ckPart) = 0 := by
              rw [hfb.out]; exact firstBad_end (by simp)
            have h2 := HEV.out
            rw [evalRes_go (l := l) HC.out hE] at h2
            have HOK := firstBad_parts.1 hE
            have hok : ∀ p ∈ ps, p.er.Ok := fun p hp' => (ok_iff _).1 ((ok_iff _).2 (HOK p.er (List.mem_map_of_mem hp')))
            have RE := Lib.hid (refEval_any A A1 c c1 l ps wr ((hl.below hb).more hb.size) (hp.keep hb hb.size) hpm HBD.out hok)
            rw [h2] at RE
            have hve := hv.keep hb hb.size
            have hbf := hB.trans (hb.mono hB.size)
            clear hfb hE h2 HOK hok hl hp hv hrow hb
            go_wp2_with fail
            refine RE.out.mono ?_
            intro e w11 hre
            obtain ⟨Aq, cq, qr, rfl, hpq, hqr, hb11⟩ := refEvalIs_row hre HV0.out
            dsimp only at hqr ⊢
            have hvq := hve.keep hb11 hb11.size
            have hbf := hbf.trans (hb11.mono hbf.size)
            have t2 : (ef == ef) = true := by simp
            clear hre RE hve
            go_wp2_with fail
            refine (equalPartsR_same Av Aq cv cq qs qr w11 hvq hpq hqm (hqe.out.trans hqr.symm)).mono ?_
            rintro e w12 ⟨rfl, hb12⟩
            have hbf := hbf.trans (hb12.mono hbf.size)
            go_wp2
            go_ret
            exact ⟨rfl, hbf⟩
    · have hx1 := HEV.out
      have HC : ckPlan l ((ps.map PtM.er).length : Nat) = bd := by rw [List.length_map]; exact HBD.out
      rw [evalRes_plan (by rw [HC]; exact hbd), HC] at hx1
      injection hx1 with hv2 he2
      have hx2 := HRR.out
      rw [readyRes_bad (by rw [HBD.out]; exact hbd), HBD.out] at hx2
      injection hx2 with hr2 he3
      subst he2 he3
      have t1 : (bd != 0) = true := by simpa using hbd
      have t2 : (bd == bd) = true := by simp
      have q0 : qs.length = 0 := by have := congrArg List.length hqe.out; rw [← hv2] at this; simpa using this
      have q1 : rr.length = 0 := by rw [← hr2]; rfl
      clear hbd HC hv2 hr2
      rw [q0, q1]
      clear q0 q1
      go_wp2
      go_ret
      exact ⟨rfl, hB⟩
end Go.Proofs.YtokiekachlmigaaDoor
