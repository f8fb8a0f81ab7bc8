/- farm.Check: what it answers. -/
import Derived.Test.YtkfmkemjoddinaaFmA
import Derived.Test.YtkfmkemjoddinaaFmS
import Derived.Test.YtkfmkemjoddinaaCheckW
set_option linter.all false
namespace Go.Proofs.Ytkfmkemjoddinaa
open Go.RowKit

theorem first_bad {α : Type} {f : α → Int} : ∀ {l : List α} {k : Nat} {x : α}, (∀ y ∈ l.take k, f y = 0) → l[k]? = some x → f x ≠ 0 → firstBad (l.map f) = f x
  | [], _, _, _, h, _ => by simp at h
  | a :: r, 0, x, _, h, hn => by
    obtain rfl : a = x := by simpa using h
    rw [List.map_cons, firstBad_cons1 hn]
  | a :: r, k + 1, x, hz, h, hn => by
    rw [List.map_cons, firstBad_cons0 (hz a (by simp))]
    exact first_bad (l := r) (k := k) (fun y hy => hz y (by simp [hy])) (by simpa using h) hn

section
variable {f : FrM}
theorem lens_ok (h : f.dn.length = f.pl.length ∧ f.hv.length = f.pl.length ∧ f.gs.length = f.pl.length) : f.er.lens = 0 := by
  unfold Frm.lens
  simp only [FrM.er, List.length_map]
  rw [if_neg (by omega)]
theorem lens_bad (h : ¬ (f.dn.length = f.pl.length ∧ f.hv.length = f.pl.length ∧ f.gs.length = f.pl.length)) : f.er.lens = 4 := by
  unfold Frm.lens
  simp only [FrM.er, List.length_map]
  rw [if_pos (by omega)]
theorem rng_ok (h : ¬ (f.wk.length < 1 ∨ 4 < f.wk.length ∨ f.now < 0 ∨ 65536 < f.now)) : f.er.rng = 0 := if_neg h
theorem rng_bad (h : f.wk.length < 1 ∨ 4 < f.wk.length ∨ f.now < 0 ∨ 65536 < f.now) : f.er.rng = 3 := if_pos h
theorem who_ok (h : ∀ x ∈ f.wk, badW f.pl.length x = false) : f.er.who = 0 := by
  unfold Frm.who
  rw [if_neg]
  rw [Bool.not_eq_true, List.any_eq_false]
  intro x hx
  rw [show badW f.er.pl.length x = false from h x hx]
  simp
theorem who_bad {k : Nat} {x : Int} (hx : f.wk[k]? = some x) (h : badW f.pl.length x = true) : f.er.who = 5 := if_pos (List.any_eq_true.2 ⟨x, List.mem_of_getElem? hx, h⟩)
theorem grs_ok (h : ∀ x ∈ f.gs, x.bad f.wk.length = false) : f.er.grs = 0 := by
  unfold Frm.grs
  rw [if_neg]
  rw [Bool.not_eq_true, List.any_eq_false]
  intro x hx
  rw [show Gr.bad f.er.wk.length x = false from h x hx]
  simp
theorem grs_bad {k : Nat} {x : Gr} (hx : f.gs[k]? = some x) (h : x.bad f.wk.length = true) : f.er.grs = 3 := if_pos (List.any_eq_true.2 ⟨x, List.mem_of_getElem? hx, h⟩)
theorem many_ok (h : ¬ 20 < f.nt.length) : f.er.many = 0 := if_neg (by simpa [FrM.er] using h)
theorem many_bad (h : 20 < f.nt.length) : f.er.many = 2 := if_pos (by simpa [FrM.er] using h)
end

set_option maxRecDepth 100000 in
set_option maxHeartbeats 20000000 in
theorem farmCheck_any (f : FrM) (w : World) (h : f.At w w.heap.size) :
    Calls Try.prog 9 #[.agg #[.slice f.pa f.ps.length f.pc, .slice f.la f.pl.length f.lc, .int .i64 f.now, .slice f.da f.dn.length f.dc, .slice f.ha f.hv.length f.hc, .slice f.ga f.gs.length f.gc, .slice f.wa f.wk.length f.wc, .slice f.na f.nt.length f.nc]] w fun e w' => e = .returned (.int .i64 (ckFarm f.er)) ∧ Below w.heap.size w w' := by
  have HK : Hid (ckFarm f.er = firstBad [ckPlan f.pl f.ps.length, f.er.lens, f.er.rng, f.er.many, firstBad ((f.ps ++ f.hv).map (fun p => ckPart p.er)), f.er.who, f.er.grs, firstBad (f.er.nt.map (ckMsg f.wk.length f.pl.length))]) := by
    show _ = _
    unfold ckFarm
    simp only [FrM.er, List.length_map, List.map_append, List.map_map]
    rfl
  obtain ⟨K, hK⟩ : ∃ K, K = ckFarm f.er := ⟨_, rfl⟩
  rw [← hK] at HK ⊢
  have kF := Blk.new w 29 #[.slice f.pa f.ps.length f.pc, .slice f.la f.pl.length f.lc, .int .i64 f.now, .slice f.da f.dn.length f.dc, .slice f.ha f.hv.length f.hc, .slice f.ga f.gs.length f.gc, .slice f.wa f.wk.length f.wc, .slice f.na f.nt.length f.nc]
  have hB : Below w.heap.size w (w.alloc (.cells #[.slice f.pa f.ps.length f.pc, .slice f.la f.pl.length f.lc, .int .i64 f.now, .slice f.da f.dn.length f.dc, .slice f.ha f.hv.length f.hc, .slice f.ga f.gs.length f.gc, .slice f.wa f.wk.length f.wc, .slice f.na f.nt.length f.nc] 29)) := by (repeat' (first | exact Below.refl _ _ | assumption | refine Below.setCell ?_ (by first | omega | exact Below.size (by assumption) | (simp; done) | (simp; omega)) _ | refine Below.alloc ?_ (by first | omega | exact Below.size (by assumption) | (simp; done) | (simp; omega)) _ | refine Below.drew ?_ | refine below_drewN ?_ _))
  replace h := h.all hB
  go_enter Try.func9, Try.ntmps9
  go_upto_region 1 with (fail)
  obtain ⟨W, hW⟩ : ∃ W', W' = w.alloc (.cells #[.slice f.pa f.ps.length f.pc, .slice f.la f.pl.length f.lc, .int .i64 f.now, .slice f.da f.dn.length f.dc, .slice f.ha f.hv.length f.hc, .slice f.ga f.gs.length f.gc, .slice f.wa f.wk.length f.wc, .slice f.na f.nt.length f.nc] 29) := ⟨_, rfl⟩
  obtain ⟨gF, hgF⟩ : ∃ g, g = w.heap.size := ⟨_, rfl⟩
  rw [← hgF] at kF ⊢
  rw [← hW] at kF h hB ⊢
  clear hW hgF
  have hbig := Lib.hid h.big
  have c0 := kF.cell 0
  have c1 := kF.cell 1
  go_wp2_with fail
  refine (planCheck_any f.la f.lc f.pl f.ps.length W h.pl hbig.out.2.1).mono ?_
  rintro e w1 ⟨rfl, hb1⟩
  replace h := h.all hb1
  replace kF := kF.all hb1
  replace hB := hB.trans (hb1.mono hB.size)
  obtain ⟨n1, hn1⟩ : ∃ n, ckPlan f.pl f.ps.length = n := ⟨_, rfl⟩
  rw [hn1] at HK ⊢
  clear hb1 c0 c1
  by_cases h0 : n1 = 0
  · have HK1 := Lib.hid (HK.out.trans (firstBad_cons0 h0))
    subst h0
    have HZ := Lib.hid (ckPlan_zero hn1)
    clear hn1
    have c0 := kF.cell 0
    have c1 := kF.cell 1
    have c3 := kF.cell 3
    have c4 := kF.cell 4
    have c5 := kF.cell 5
    have c6 := kF.cell 6
    have c2 := kF.cell 2
    have c7 := kF.cell 7
    clear HK
    by_cases hl : f.dn.length = f.pl.length ∧ f.hv.length = f.pl.length ∧ f.gs.length = f.pl.length
    · have HK2 := Lib.hid (HK1.out.trans (firstBad_cons0 (lens_ok hl)))
      have q1 : ((f.dn.length : Int) != (f.pl.length : Int)) = false := by simp; omega
      have q2 : ((f.hv.length : Int) != (f.pl.length : Int)) = false := by simp; omega
      have q3 : ((f.gs.length : Int) != (f.pl.length : Int)) = false := by simp; omega
      have HL := Lib.hid hl
      clear HK1 hl
      by_cases hr : f.wk.length < 1 ∨ 4 < f.wk.length ∨ f.now < 0 ∨ 65536 < f.now
      · have HE := Lib.hid (HK2.out.trans ((firstBad_cons1 (by rw [rng_bad hr]; decide)).trans (rng_bad hr)))
        clear HK2
        by_cases h1 : f.wk.length < 1
        · have q4 : decide ((f.wk.length : Int) < 1) = true := decide_eq_true (by omega)
          clear hr h1
          (go_wp2; go_ret; exact ⟨ret_val (by rw [HE.out]; rfl), hB⟩)
        · have q4 : decide ((f.wk.length : Int) < 1) = false := decide_eq_false (by omega)
          by_cases h2 : 4 < f.wk.length
          · have q5 : decide (4 < (f.wk.length : Int)) = true := decide_eq_true (by omega)
            clear hr h1 h2
            (go_wp2; go_ret; exact ⟨ret_val (by rw [HE.out]; rfl), hB⟩)
          · have q5 : decide (4 < (f.wk.length : Int)) = false := decide_eq_false (by omega)
            by_cases h3 : f.now < 0
            · have q6 : decide (f.now < 0) = true := decide_eq_true h3
              clear hr h1 h2 h3
              (go_wp2; go_ret; exact ⟨ret_val (by rw [HE.out]; rfl), hB⟩)
            · have q6 : decide (f.now < 0) = false := decide_eq_false h3
              have q7 : decide (65536 < f.now) = true := decide_eq_true (by omega)
              clear hr h1 h2 h3
              (go_wp2; go_ret; exact ⟨ret_val (by rw [HE.out]; rfl), hB⟩)
      · have HK3 := Lib.hid (HK2.out.trans (firstBad_cons0 (rng_ok hr)))
        have q4 : decide ((f.wk.length : Int) < 1) = false := decide_eq_false (by omega)
        have q5 : decide (4 < (f.wk.length : Int)) = false := decide_eq_false (by omega)
        have q6 : decide (f.now < 0) = false := decide_eq_false (by omega)
        have q7 : decide (65536 < f.now) = false := decide_eq_false (by omega)
        have HR := Lib.hid hr
        clear HK2 hr
        by_cases hn : 20 < f.nt.length
        · have HE := Lib.hid (HK3.out.trans ((firstBad_cons1 (by rw [many_bad hn]; decide)).trans (many_bad hn)))
          have q8 : decide (20 < (f.nt.length : Int)) = true := decide_eq_true (by omega)
          clear hn HK3
          (go_wp2; go_ret; exact ⟨ret_val (by rw [HE.out]; rfl), hB⟩)
        · have HK4 := Lib.hid (HK3.out.trans (firstBad_cons0 (many_ok hn)))
          have q8 : decide (20 < (f.nt.length : Int)) = false := decide_eq_false (by omega)
          have HN := Lib.hid hn
          clear hn HK3
          go_wp2_with fail
          have kL := Blk.new w1 22 #[.slice f.pa f.ps.length f.pc, .slice f.ha f.hv.length f.hc]
          have hbx : Below w1.heap.size w1 (w1.alloc (.cells #[.slice f.pa f.ps.length f.pc, .slice f.ha f.hv.length f.hc] 22)) := by (repeat' (first | exact Below.refl _ _ | assumption | refine Below.setCell ?_ (by first | omega | exact Below.size (by assumption) | (simp; done) | (simp; omega)) _ | refine Below.alloc ?_ (by first | omega | exact Below.size (by assumption) | (simp; done) | (simp; omega)) _ | refine Below.drew ?_ | refine below_drewN ?_ _))
          replace h := h.all hbx
          replace kF := kF.all hbx
          replace hB := hB.trans (hbx.mono hB.size)
          obtain ⟨gL, hgL⟩ : ∃ g, g = w1.heap.size := ⟨_, rfl⟩
          obtain ⟨W2, hW2⟩ : ∃ W', W' = w1.alloc (.cells #[.slice f.pa f.ps.length f.pc, .slice f.ha f.hv.length f.hc] 22) := ⟨_, rfl⟩
          rw [← hgL] at kL ⊢
          rw [← hW2] at kL kF h hB ⊢
          clear hW2 hgL hbx
          have hcat : catParts [⟨f.pa, f.ps, f.pc⟩, ⟨f.ha, f.hv, f.hc⟩] = f.ps ++ f.hv := by simp [catParts]
          have hwk : f.wk.length ≤ 4 := by have h1 := HR.out; omega
          have hgs : f.gs.length ≤ 23 := by have h1 := HL.out; have h2 := HZ.out; omega
          have hnt : f.nt.length ≤ 20 := by have h1 := HN.out; omega
          have hLl : (f.ps ++ f.hv).length ≤ 35 := by
            have h1 := HZ.out
            have h2 := HL.out
            rw [List.length_append]
            omega
          have HC := Lib.hid (concatParts_any (some ⟨gL, 0, none⟩) 2 [⟨f.pa, f.ps, f.pc⟩, ⟨f.ha, f.hv, f.hc⟩] W2 (kL.reads (size := 1) (n := 2) rfl)
            (fun s hs => by
              simp only [List.mem_cons, List.not_mem_nil, or_false] at hs
              rcases hs with rfl | rfl
              · exact h.ps.row
              · exact h.hv.row) (by rw [hcat]; omega) (Nat.le_of_ble_eq_true rfl))
          rw [hcat] at HC
          clear hcat kL
          have HA : Hid (∀ p ∈ f.ps ++ f.hv, p.At W2 W2.heap.size) := fun p hp => by
            rcases List.mem_append.1 hp with hp | hp
            · exact h.ps.each p hp
            · exact h.hv.each p hp
          refine HC.out.mono ?_
          rintro e w3 ⟨v3, rfl, hown, hb3⟩
          obtain ⟨L, hL⟩ : ∃ L, L = f.ps ++ f.hv := ⟨_, rfl⟩
          rw [← hL] at hown hLl HA HK4
          clear hL HC
          have HA3 : Hid (∀ p ∈ L, p.At w3 w3.heap.size) := fun p hp => (HA.out p hp).all hb3
          replace h := h.all hb3
          replace kF := kF.all hb3
          replace hB := hB.trans (hb3.mono hB.size)
          obtain ⟨A3, cc3, rfl, hc3, _⟩ := own_form hown
          have hLr := Reads.of_own hown
          clear HA hb3 hown c0 c1 c2 c3 c4 c5 c6 c7 q1 q2 q3 q4 q5 q6 q7 q8
          go_wp2_with fail
          go_loopw [77] (fun i wr => ∃ k : Nat, k ≤ L.length ∧ i = .int .i64 k ∧ Hid (∀ p ∈ L.take k, ckPart p.er = 0) ∧ Below w3.heap.size w3 wr) (fun i _ => L.length - (intOf i).toNat)
          case atStart => exact ⟨0, Nat.zero_le _, rfl, Lib.hid (fun p hp => absurd hp (by simp)), Below.refl _ _⟩
          case round =>
            obtain ⟨k, hk, rfl, hz, hb⟩ := hrel
            by_cases hlt : k < L.length
            · obtain ⟨p, hp⟩ : ∃ p, L[k]? = some p := ⟨_, List.getElem?_eq_getElem hlt⟩
              have hP := (HA3.out p (List.mem_of_getElem? hp)).all hb
              obtain ⟨b, off, rfl, bl, c0, c1⟩ := pt_get (hLr.below hb) hp
              have HP := Lib.hid hp
              clear hp
              have hbx : Below wr.heap.size wr (wr.alloc (.cells #[.slice (p).fa (p).frs.length (p).fc, .slice (p).da (p).dfs.length (p).dc] 44)) := by (repeat' (first | exact Below.refl _ _ | assumption | refine Below.setCell ?_ (by first | omega | exact Below.size (by assumption) | (simp; done) | (simp; omega)) _ | refine Below.alloc ?_ (by first | omega | exact Below.size (by assumption) | (simp; done) | (simp; omega)) _ | refine Below.drew ?_ | refine below_drewN ?_ _))
              replace hP := hP.all hbx
              have hbn := hb.trans (hbx.mono hb.size)
              go_wp2_with fail
              refine (check_any p _ hP).mono ?_
              rintro e w4 ⟨rfl, hb4⟩
              replace hbn := hbn.trans (hb4.mono hbn.size)
              obtain ⟨n, hn⟩ : ∃ n, ckPart p.er = n := ⟨_, rfl⟩
              rw [hn]
              have HN2 := Lib.hid hn
              clear hn hb4 hP hbx c0 c1
              by_cases h0 : n = 0
              · have HZ2 : Hid (∀ q ∈ L.take (k + 1), ckPart q.er = 0) := fun q hq => by
                  rw [List.take_add_one, HP.out] at hq
                  rcases List.mem_append.1 hq with hq | hq
                  · exact hz.out q hq
                  · obtain rfl : q = p := by simpa using hq
                    rw [HN2.out, h0]
                subst h0
                go_wp2
                go_roundw
                case rel => exact ⟨k + 1, by omega, by go_num, HZ2, hbn⟩
                case measure => simp [intOf]; omega
              · have hx : (n != 0) = true := by simpa using h0
                have e1 := first_bad (f := fun p : PtM => ckPart p.er) hz.out HP.out (by show ckPart p.er ≠ 0; rw [HN2.out]; exact h0)
                have HE : Hid (K = n) := HK4.out.trans ((firstBad_cons1 (by rw [e1]; show ckPart p.er ≠ 0; rw [HN2.out]; exact h0)).trans (e1.trans HN2.out))
                have hB' := hB.trans (hbn.mono hB.size)
                clear h0 e1
                go_wp2
                go_ret
                exact ⟨ret_val (by rw [HE.out]; rfl), hB'⟩
            · obtain rfl : k = L.length := by omega
              rw [List.take_length] at hz
              have HK5 := Lib.hid (HK4.out.trans (firstBad_cons0 (firstBad_zero.2 fun n hn => by obtain ⟨p, hp, rfl⟩ := List.mem_map.1 hn; exact hz.out p hp)))
              replace h := h.all hb
              replace kF := kF.all hb
              replace hB := hB.trans (hb.mono hB.size)
              obtain ⟨W3, hW3⟩ : ∃ W', W' = wr := ⟨_, rfl⟩
              rw [← hW3] at h kF hB ⊢
              clear hz hb HK4 hLr HA3 hW3
              have c6 := kF.cell 6
              have c5 := kF.cell 5
              have c7 := kF.cell 7
              go_wp2_with fail
              go_loopw [90] (fun i wr => ∃ k : Nat, k ≤ f.wk.length ∧ i = .int .i64 k ∧ Hid (∀ x ∈ f.wk.take k, badW f.pl.length x = false) ∧ Below W3.heap.size W3 wr) (fun i _ => f.wk.length - (intOf i).toNat)
              case atStart => exact ⟨0, Nat.zero_le _, rfl, Lib.hid (fun p hp => absurd hp (by simp)), Below.refl _ _⟩
              case round =>
                obtain ⟨k, hk, rfl, hz, hb⟩ := hrel
                by_cases hlt : k < f.wk.length
                · obtain ⟨x, hx⟩ : ∃ x, f.wk[k]? = some x := ⟨_, List.getElem?_eq_getElem hlt⟩
                  obtain ⟨b, off, u, hA, bl, hu, hc⟩ := (h.wk.below hb).at_ hlt
                  rw [intsV, List.getElem?_map, hx] at hu
                  injection hu with hu
                  subst hu
                  replace hc : wr.cell? ⟨b, off + k, none⟩ = some (.int .i64 x) := hc
                  have HX := Lib.hid hx
                  rw [hA]
                  have HWA := Lib.hid hA
                  clear hx hA
                  by_cases hbad : badW f.pl.length x = true
                  · have HE := Lib.hid (HK5.out.trans ((firstBad_cons1 (by rw [who_bad HX.out hbad]; decide)).trans (who_bad HX.out hbad)))
                    have hB' := hB.trans (hb.mono hB.size)
                    by_cases h1 : x < -1
                    · have g1 : decide (x < -1) = true := decide_eq_true h1
                      clear h1 hbad
                      (go_wp2; go_ret; exact ⟨ret_val (by rw [HE.out]; rfl), hB'⟩)
                    · have g1 : decide (x < -1) = false := decide_eq_false h1
                      have g2 : decide ((f.pl.length : Int) ≤ x) = true := by unfold badW at hbad; rw [g1, Bool.false_or] at hbad; exact hbad
                      clear h1 hbad
                      (go_wp2; go_ret; exact ⟨ret_val (by rw [HE.out]; rfl), hB'⟩)
                  · have hbf : badW f.pl.length x = false := by simpa using hbad
                    have g1 : decide (x < -1) = false := by unfold badW at hbf; exact (Bool.or_eq_false_iff.1 hbf).1
                    have g2 : decide ((f.pl.length : Int) ≤ x) = false := by unfold badW at hbf; exact (Bool.or_eq_false_iff.1 hbf).2
                    have HZ2 : Hid (∀ y ∈ f.wk.take (k + 1), badW f.pl.length y = false) := fun y hy => by
                      rw [List.take_add_one, HX.out] at hy
                      rcases List.mem_append.1 hy with hy | hy
                      · exact hz.out y hy
                      · obtain rfl : y = x := by simpa using hy
                        exact hbf
                    clear hbad hbf
                    go_wp2
                    go_roundw
                    case rel => exact ⟨k + 1, by omega, by go_num, HZ2, hb⟩
                    case measure => simp [intOf]; omega
                · obtain rfl : k = f.wk.length := by omega
                  rw [List.take_length] at hz
                  have HK6 := Lib.hid (HK5.out.trans (firstBad_cons0 (who_ok hz.out)))
                  replace h := h.all hb
                  replace kF := kF.all hb
                  replace hB := hB.trans (hb.mono hB.size)
                  obtain ⟨W4, hW4⟩ : ∃ W', W' = wr := ⟨_, rfl⟩
                  rw [← hW4] at h kF hB ⊢
                  clear hz hb HK5 c6 c5 c7 hW4
                  have c5 := kF.cell 5
                  go_wp2_with fail
                  go_loopw [105] (fun i wr => ∃ k : Nat, k ≤ f.gs.length ∧ i = .int .i64 k ∧ Hid (∀ x ∈ f.gs.take k, x.bad f.wk.length = false) ∧ Below W4.heap.size W4 wr) (fun i _ => f.gs.length - (intOf i).toNat)
                  case atStart => exact ⟨0, Nat.zero_le _, rfl, Lib.hid (fun p hp => absurd hp (by simp)), Below.refl _ _⟩
                  case round =>
                    obtain ⟨k, hk, rfl, hz, hb⟩ := hrel
                    clear c5
                    have kF2 := kF.all hb
                    have c5 := kF2.cell 5
                    have c6 := kF2.cell 6
                    have zF := kF2.lt
                    by_cases hlt : k < f.gs.length
                    · obtain ⟨x, hx⟩ : ∃ x, f.gs[k]? = some x := ⟨_, List.getElem?_eq_getElem hlt⟩
                      obtain ⟨b, off, hA, bl, d0, d1⟩ := gr_get (h.gs.below hb) hx
                      have HX := Lib.hid hx
                      rw [hA]
                      have HGA := Lib.hid hA
                      have hbx : Below wr.heap.size wr (wr.alloc (.cells #[.int .i64 x.worker, .int .i64 x.until_] 76)) := by (repeat' (first | exact Below.refl _ _ | assumption | refine Below.setCell ?_ (by first | omega | exact Below.size (by assumption) | (simp; done) | (simp; omega)) _ | refine Below.alloc ?_ (by first | omega | exact Below.size (by assumption) | (simp; done) | (simp; omega)) _ | refine Below.drew ?_ | refine below_drewN ?_ _))
                      have hbn := hb.trans (hbx.mono hb.size)
                      clear hx hA hbx kF2
                      by_cases hbad : x.bad f.wk.length = true
                      · have HE := Lib.hid (HK6.out.trans ((firstBad_cons1 (by rw [grs_bad HX.out hbad]; decide)).trans (grs_bad HX.out hbad)))
                        have hB' := hB.trans (hbn.mono hB.size)
                        unfold Gr.bad at hbad
                        by_cases h1 : decide (x.worker < 0) = true
                        · clear hbad
                          (go_wp2; go_ret; exact ⟨ret_val (by rw [HE.out]; rfl), hB'⟩)
                        · rw [Bool.not_eq_true] at h1
                          rw [h1, Bool.false_or] at hbad
                          by_cases h2 : decide ((f.wk.length : Int) ≤ x.worker) = true
                          · clear hbad
                            (go_wp2; go_ret; exact ⟨ret_val (by rw [HE.out]; rfl), hB'⟩)
                          · rw [Bool.not_eq_true] at h2
                            rw [h2, Bool.false_or] at hbad
                            by_cases h3 : decide (x.until_ < 0) = true
                            · clear hbad
                              (go_wp2; go_ret; exact ⟨ret_val (by rw [HE.out]; rfl), hB'⟩)
                            · rw [Bool.not_eq_true] at h3
                              rw [h3, Bool.false_or] at hbad
                              (go_wp2; go_ret; exact ⟨ret_val (by rw [HE.out]; rfl), hB'⟩)
                      · rw [Bool.not_eq_true] at hbad
                        have HZ2 : Hid (∀ y ∈ f.gs.take (k + 1), y.bad f.wk.length = false) := fun y hy => by
                          rw [List.take_add_one, HX.out] at hy
                          rcases List.mem_append.1 hy with hy | hy
                          · exact hz.out y hy
                          · obtain rfl : y = x := by simpa using hy
                            exact hbad
                        unfold Gr.bad at hbad
                        obtain ⟨g1, hbad⟩ := Bool.or_eq_false_iff.1 hbad
                        obtain ⟨g2, hbad⟩ := Bool.or_eq_false_iff.1 hbad
                        obtain ⟨g3, g4⟩ := Bool.or_eq_false_iff.1 hbad
                        clear hbad
                        go_wp2
                        go_roundw
                        case rel => exact ⟨k + 1, by omega, by go_num, HZ2, hbn⟩
                        case measure => simp [intOf]; omega
                    · obtain rfl : k = f.gs.length := by omega
                      rw [List.take_length] at hz
                      have HK7 := Lib.hid (HK6.out.trans ((firstBad_cons0 (grs_ok hz.out)).trans (firstBad_one _)))
                      replace h := h.all hb
                      replace hB := hB.trans (hb.mono hB.size)
                      obtain ⟨W5, hW5⟩ : ∃ W', W' = wr := ⟨_, rfl⟩
                      rw [← hW5] at h kF2 hB ⊢
                      clear hz hb HK6 c6 c5 hW5 zF kF
                      have c7 := kF2.cell 7
                      go_wp2_with fail
                      go_loopw [134] (fun i wr => ∃ k : Nat, k ≤ f.nt.length ∧ i = .int .i64 k ∧ Hid (∀ x ∈ f.nt.take k, ckMsg f.wk.length f.pl.length x.er = 0) ∧ Below W5.heap.size W5 wr) (fun i _ => f.nt.length - (intOf i).toNat)
                      case atStart => exact ⟨0, Nat.zero_le _, rfl, Lib.hid (fun p hp => absurd hp (by simp)), Below.refl _ _⟩
                      case round =>
                        obtain ⟨k, hk, rfl, hz, hb⟩ := hrel
                        clear c7
                        have kF3 := kF2.all hb
                        have c6 := kF3.cell 6
                        have zF := kF3.lt
                        by_cases hlt : k < f.nt.length
                        · obtain ⟨x, hx⟩ : ∃ x, f.nt[k]? = some x := ⟨_, List.getElem?_eq_getElem hlt⟩
                          obtain ⟨b, off, hA, bl, d0, d1, d2, d3, d4⟩ := ms_get (h.nt.below hb) hx
                          have hP := (h.each x (List.mem_of_getElem? hx)).all hb
                          have HX := Lib.hid hx
                          rw [hA]
                          have HNA := Lib.hid hA
                          have hbx : Below wr.heap.size wr (wr.alloc (.cells #[.int .i64 x.kind, .int .i64 x.worker, .int .i64 x.n, .slice x.p.fa x.p.frs.length x.p.fc, .slice x.p.da x.p.dfs.length x.p.dc] 50)) := by (repeat' (first | exact Below.refl _ _ | assumption | refine Below.setCell ?_ (by first | omega | exact Below.size (by assumption) | (simp; done) | (simp; omega)) _ | refine Below.alloc ?_ (by first | omega | exact Below.size (by assumption) | (simp; done) | (simp; omega)) _ | refine Below.drew ?_ | refine below_drewN ?_ _))
                          replace hP := hP.all hbx
                          have hbn := hb.trans (hbx.mono hb.size)
                          clear hx hA hbx kF3
                          have HFB : Hid (ckMsg f.wk.length f.pl.length x.er ≠ 0 → K = ckMsg f.wk.length f.pl.length x.er) := fun hne => by
                            have e1 := first_bad (f := fun m : MsM => ckMsg f.wk.length f.pl.length m.er) hz.out HX.out hne
                            rw [HK7.out, show f.er.nt = f.nt.map MsM.er from rfl, List.map_map]
                            exact e1
                          by_cases hbad : x.er.bad f.wk.length f.pl.length = true
                          · have hck : ckMsg f.wk.length f.pl.length x.er = 3 := if_pos hbad
                            have HE : Hid (K = 3) := (HFB.out (by rw [hck]; decide)).trans hck
                            have hB' := hB.trans (hbn.mono hB.size)
                            clear hck hP
                            replace hbad : (decide (x.kind < 1) || (decide (2 < x.kind) || (decide (x.worker < 0) || (decide ((f.wk.length : Int) ≤ x.worker) || (decide (x.n < 0) || decide ((f.pl.length : Int) ≤ x.n)))))) = true := hbad
                            by_cases h1 : decide (x.kind < 1) = true
                            · clear hbad
                              (go_wp2; go_ret; exact ⟨ret_val (by rw [HE.out]; rfl), hB'⟩)
                            · rw [Bool.not_eq_true] at h1
                              rw [h1, Bool.false_or] at hbad
                              by_cases h2 : decide (2 < x.kind) = true
                              · clear hbad
                                (go_wp2; go_ret; exact ⟨ret_val (by rw [HE.out]; rfl), hB'⟩)
                              · rw [Bool.not_eq_true] at h2
                                rw [h2, Bool.false_or] at hbad
                                by_cases h3 : decide (x.worker < 0) = true
                                · clear hbad
                                  (go_wp2; go_ret; exact ⟨ret_val (by rw [HE.out]; rfl), hB'⟩)
                                · rw [Bool.not_eq_true] at h3
                                  rw [h3, Bool.false_or] at hbad
                                  by_cases h4 : decide ((f.wk.length : Int) ≤ x.worker) = true
                                  · clear hbad
                                    (go_wp2; go_ret; exact ⟨ret_val (by rw [HE.out]; rfl), hB'⟩)
                                  · rw [Bool.not_eq_true] at h4
                                    rw [h4, Bool.false_or] at hbad
                                    by_cases h5 : decide (x.n < 0) = true
                                    · clear hbad
                                      (go_wp2; go_ret; exact ⟨ret_val (by rw [HE.out]; rfl), hB'⟩)
                                    · rw [Bool.not_eq_true] at h5
                                      rw [h5, Bool.false_or] at hbad
                                      (go_wp2; go_ret; exact ⟨ret_val (by rw [HE.out]; rfl), hB'⟩)
                          · have hck : ckMsg f.wk.length f.pl.length x.er = ckPart x.p.er := if_neg hbad
                            rw [Bool.not_eq_true] at hbad
                            replace hbad : (decide (x.kind < 1) || (decide (2 < x.kind) || (decide (x.worker < 0) || (decide ((f.wk.length : Int) ≤ x.worker) || (decide (x.n < 0) || decide ((f.pl.length : Int) ≤ x.n)))))) = false := hbad
                            obtain ⟨g1, hbad⟩ := Bool.or_eq_false_iff.1 hbad
                            obtain ⟨g2, hbad⟩ := Bool.or_eq_false_iff.1 hbad
                            obtain ⟨g3, hbad⟩ := Bool.or_eq_false_iff.1 hbad
                            obtain ⟨g4, hbad⟩ := Bool.or_eq_false_iff.1 hbad
                            obtain ⟨g5, g6⟩ := Bool.or_eq_false_iff.1 hbad
                            clear hbad
                            rw [hck] at HFB
                            have HCK := Lib.hid hck
                            clear hck
                            go_wp2_with fail
                            refine (check_any x.p _ hP).mono ?_
                            rintro e w6 ⟨rfl, hb6⟩
                            replace hbn := hbn.trans (hb6.mono hbn.size)
                            obtain ⟨n, hn⟩ : ∃ n, ckPart x.p.er = n := ⟨_, rfl⟩
                            rw [hn] at HFB HCK ⊢
                            clear hn hb6 hP
                            by_cases h0 : n = 0
                            · have HZ2 : Hid (∀ y ∈ f.nt.take (k + 1), ckMsg f.wk.length f.pl.length y.er = 0) := fun y hy => by
                                rw [List.take_add_one, HX.out] at hy
                                rcases List.mem_append.1 hy with hy | hy
                                · exact hz.out y hy
                                · obtain rfl : y = x := by simpa using hy
                                  rw [HCK.out, h0]
                              subst h0
                              clear g1 g2 g3 g4 g5 g6
                              go_wp2
                              go_roundw
                              case rel => exact ⟨k + 1, by omega, by go_num, HZ2, hbn⟩
                              case measure => simp [intOf]; omega
                            · have hx : (n != 0) = true := by simpa using h0
                              have HE := Lib.hid (HFB.out h0)
                              have hB' := hB.trans (hbn.mono hB.size)
                              clear h0 g1 g2 g3 g4 g5 g6
                              (go_wp2; go_ret; exact ⟨ret_val (by rw [HE.out]; rfl), hB'⟩)
                        · obtain rfl : k = f.nt.length := by omega
                          rw [List.take_length] at hz
                          have HE : Hid (K = 0) := HK7.out.trans (firstBad_zero.2 fun n hn => by
                            obtain ⟨m, hm, rfl⟩ := List.mem_map.1 hn
                            obtain ⟨y, hy, rfl⟩ := List.mem_map.1 hm
                            exact hz.out y hy)
                          have hB' := hB.trans (hb.mono hB.size)
                          (go_wp2; go_ret; exact ⟨ret_val (by rw [HE.out]; rfl), hB'⟩)
    · have HE := Lib.hid (HK1.out.trans ((firstBad_cons1 (by rw [lens_bad hl]; decide)).trans (lens_bad hl)))
      clear HK1
      by_cases h1 : f.dn.length = f.pl.length
      · have q1 : ((f.dn.length : Int) != (f.pl.length : Int)) = false := by simp; omega
        by_cases h2 : f.hv.length = f.pl.length
        · have q2 : ((f.hv.length : Int) != (f.pl.length : Int)) = false := by simp; omega
          have q3 : ((f.gs.length : Int) != (f.pl.length : Int)) = true := by simp; omega
          clear hl h1 h2
          (go_wp2; go_ret; exact ⟨ret_val (by rw [HE.out]; rfl), hB⟩)
        · have q2 : ((f.hv.length : Int) != (f.pl.length : Int)) = true := by simp; omega
          clear hl h1 h2
          (go_wp2; go_ret; exact ⟨ret_val (by rw [HE.out]; rfl), hB⟩)
      · have q1 : ((f.dn.length : Int) != (f.pl.length : Int)) = true := by simp; omega
        clear hl h1
        (go_wp2; go_ret; exact ⟨ret_val (by rw [HE.out]; rfl), hB⟩)
  · have hx : (n1 != 0) = true := by simpa using h0
    have HE := Lib.hid (HK.out.trans (firstBad_cons1 h0))
    clear h0 HK hn1
    go_wp2
    go_ret
    exact ⟨ret_val (by rw [HE.out]; rfl), hB⟩
end Go.Proofs.Ytkfmkemjoddinaa
