/- ropewalklaw.FarmHonest: it answers true. -/
import Derived.Test.YtkfmkemjoddinaaFarmA
import Derived.Test.YtkfmkemjoddinaaFmC
import Derived.Test.YtkfmkemjoddinaaFarmY
import Derived.Test.YtkfmkemjoddinaaFarmV
import Derived.Test.YtkfmkemjoddinaaPlK
set_option linter.all false
namespace Go.Proofs.Ytkfmkemjoddinaa
open Go.RowKit
set_option maxRecDepth 100000

set_option maxHeartbeats 40000000 in
theorem farmHonest_any (A A1 A3 : Option Addr) (c c1 c3 : Nat) (ps : List PtM) (picks : List Int) (nw : Int) (l3 : List Hap) (w : World) (hp : PtsAt w w.heap.size A ps) (hpm : ps.length ≤ 9223372036854775807)
    (h1 : Reads w w.heap.size 1 A1 picks.length (intsV picks)) (hm1 : picks.length ≤ 9223372036854775807) (h3 : Reads w w.heap.size 3 A3 l3.length (hapsV l3)) (hm3 : l3.length ≤ 9223372036854775807) :
    Calls Try.prog 5 #[.slice A ps.length c, .slice A1 picks.length c1, .int .i64 nw, .slice A3 l3.length c3] w fun e w' => e = .returned (.bool true) ∧ Below w.heap.size w w' := by
  obtain ⟨l, x, HL⟩ : ∃ l x, Hid (makeRes ps.length picks = (l, x)) := ⟨_, _, rfl⟩
  go_enter Try.func5, Try.ntmps5
  go_wp2_with fail
  refine (make_any ps.length A1 c1 picks w h1 hm1).mono ?_
  rintro e w1 ⟨v, rfl, ⟨Al, cl, rfl, hcl, rl⟩, hb1⟩
  rw [HL.out] at rl ⊢
  dsimp only at rl ⊢
  have h3' := (h3.below hb1).more hb1.size
  have hp1 := hp.keep hb1 hb1.size
  clear h1 hm1 h3 hp
  go_wp2_with fail
  refine (farmed_any w1).mono ?_
  rintro e w2 ⟨rfl, hb2⟩
  have rl2 := (rl.below hb2).more hb2.size
  have h32 := (h3'.below hb2).more hb2.size
  have hp2 := hp1.keep hb2 hb2.size
  have hB2 := hb1.trans (hb2.mono hb1.size)
  clear rl h3' hp1 hb1 hb2
  by_cases hx : x = 0
  · subst hx
    go_wp2_with fail
    refine (new_any A Al c cl ps l nw w2 hp2 hpm rl2 (by have := (ckPlan_zero (make_plan HL.out)).2.2.1; omega)).mono ?_
    rintro e w3 ⟨f, rfl, hO, hE, hb3⟩
    have h33 := (h32.below hb3).more hb3.size
    have hp3 := hp2.keep hb3 hb3.size
    have rl3 := (rl2.below hb3).more hb3.size
    have hB3 := hB2.trans (hb3.mono hB2.size)
    obtain ⟨r, hr⟩ : ∃ r, newP (ps.map PtM.er) l nw = r := ⟨_, rfl⟩
    rw [hr] at hE ⊢
    obtain ⟨r1, n⟩ := r
    dsimp only at hE ⊢
    have HR := Lib.hid hr
    have HE := Lib.hid hE
    clear hr hE hp2 rl2 h32 hB2
    by_cases hn : n = 0
    · subst hn
      go_upto_region 7 with (fail)
      have hs := hb3.alloc hb3.size (.cells #[.slice f.pa f.ps.length f.pc, .slice f.la f.pl.length f.lc, .int .i64 f.now, .slice f.da f.dn.length f.dc, .slice f.ha f.hv.length f.hc, .slice f.ga f.gs.length f.gc, .slice f.wa f.wk.length f.wc, .slice f.na f.nt.length f.nc] 29)
      have hs3 : Below w3.heap.size w3 (w3.alloc (.cells #[.slice f.pa f.ps.length f.pc, .slice f.la f.pl.length f.lc, .int .i64 f.now, .slice f.da f.dn.length f.dc, .slice f.ha f.hv.length f.hc, .slice f.ga f.gs.length f.gc, .slice f.wa f.wk.length f.wc, .slice f.na f.nt.length f.nc] 29)) := by (repeat' (first | exact Below.refl _ _ | assumption | refine Below.setCell ?_ (by first | omega | exact Below.size (by assumption) | (simp; done) | (simp; omega)) _ | refine Below.alloc ?_ (by first | omega | exact Below.size (by assumption) | (simp; done) | (simp; omega)) _ | refine Below.drew ?_ | refine below_drewN ?_ _))
      have kF := Blk.new w3 29 #[.slice f.pa f.ps.length f.pc, .slice f.la f.pl.length f.lc, .int .i64 f.now, .slice f.da f.dn.length f.dc, .slice f.ha f.hv.length f.hc, .slice f.ga f.gs.length f.gc, .slice f.wa f.wk.length f.wc, .slice f.na f.nt.length f.nc]
      have hO4 := hO.alloc (.cells #[.slice f.pa f.ps.length f.pc, .slice f.la f.pl.length f.lc, .int .i64 f.now, .slice f.da f.dn.length f.dc, .slice f.ha f.hv.length f.hc, .slice f.ga f.gs.length f.gc, .slice f.wa f.wk.length f.wc, .slice f.na f.nt.length f.nc] 29)
      have h34 := (h33.below hs3).more hs3.size
      have hg3 : w3.heap.size ≤ w3.heap.size := Nat.le_refl _
      have hB4 := hB3.trans (hs3.mono hB3.size)
      have hgl : w.heap.size ≤ w3.heap.size := hB3.size
      obtain ⟨gF, hgF⟩ : ∃ g, g = w3.heap.size := ⟨_, rfl⟩
      obtain ⟨w4, hw4⟩ : ∃ y, y = w3.alloc (.cells #[.slice f.pa f.ps.length f.pc, .slice f.la f.pl.length f.lc, .int .i64 f.now, .slice f.da f.dn.length f.dc, .slice f.ha f.hv.length f.hc, .slice f.ga f.gs.length f.gc, .slice f.wa f.wk.length f.wc, .slice f.na f.nt.length f.nc] 29) := ⟨_, rfl⟩
      replace hg3 : w3.heap.size ≤ gF := by omega
      rw [← hgF] at kF hgl ⊢
      rw [← hw4] at kF hO4 h34 hs3 hB4 ⊢
      clear hw4 hgF hs hO h33 hB3 hb3
      (have q0 := (kF).cell 0; have q1 := (kF).cell 1; have q2 := (kF).cell 2; have q3 := (kF).cell 3; have q4 := (kF).cell 4; have q5 := (kF).cell 5; have q6 := (kF).cell 6; have q7 := (kF).cell 7)
      have hA4 := hO4.at_
      obtain ⟨r2, hr2⟩ : ∃ r, runP f.er l3 = r := ⟨_, rfl⟩
      have RN := Lib.hid (run_any f A3 c3 l3 w4 hA4 h34 hm3)
      rw [hr2] at RN
      have HR2 := Lib.hid hr2
      clear hr2 hA4
      go_wp2_with fail
      refine RN.out.mono ?_
      rintro e w5 ⟨f', v5, rfl, hO5, hE5, _, hb5⟩
      obtain ⟨r2f, r2l, n2⟩ := r2
      dsimp only at hE5 ⊢
      clear RN q0 q1 q2 q3 q4 q5 q6 q7
      replace kF := kF.all hb5
      have hb35 := hs3.trans (hb5.mono hs3.size)
      have hB5 := hB4.trans (hb5.mono hB4.size)
      clear hB4 h34 hO4 hs3
      (have q0 := (kF).cell 0; have q1 := (kF).cell 1; have q2 := (kF).cell 2; have q3 := (kF).cell 3; have q4 := (kF).cell 4; have q5 := (kF).cell 5; have q6 := (kF).cell 6; have q7 := (kF).cell 7)
      (have z0 := (kF).frozen 0; have z1 := (kF).frozen 1; have z2 := (kF).frozen 2; have z3 := (kF).frozen 3; have z4 := (kF).frozen 4; have z5 := (kF).frozen 5; have z6 := (kF).frozen 6; have z7 := (kF).frozen 7)
      go_upto_region 8 with (fail)
      have hB6 := below_put8 hB5 hgl f'
      have kF6 := kF.put8 f'
      have hO6 := hO5.put8 kF f'
      have hb36 := below_put8 hb35 hg3 f'
      have hp6 := hp3.keep hb36 hb36.size
      have rl6 := (rl3.below hb36).more hb36.size
      obtain ⟨w6, hw6⟩ : ∃ y, y = ((((((((w5.setCell ⟨gF, 0, none⟩ (.slice f'.pa f'.ps.length f'.pc)).setCell ⟨gF, 1, none⟩ (.slice f'.la f'.pl.length f'.lc)).setCell ⟨gF, 2, none⟩ (.int .i64 f'.now)).setCell ⟨gF, 3, none⟩ (.slice f'.da f'.dn.length f'.dc)).setCell ⟨gF, 4, none⟩ (.slice f'.ha f'.hv.length f'.hc)).setCell ⟨gF, 5, none⟩ (.slice f'.ga f'.gs.length f'.gc)).setCell ⟨gF, 6, none⟩ (.slice f'.wa f'.wk.length f'.wc)).setCell ⟨gF, 7, none⟩ (.slice f'.na f'.nt.length f'.nc)) := ⟨_, rfl⟩
      rw [← hw6] at hB6 kF6 hO6 hp6 rl6 ⊢
      clear hw6 hb36 hp3 rl3 kF hB5 hb35 hO5 hb5 hg3 hgl q0 q1 q2 q3 q4 q5 q6 q7 z0 z1 z2 z3 z4 z5 z6 z7
      obtain ⟨hck, hn1, hn4, hpo, hnf⟩ := newP_zero (parts := ps.map PtM.er) (l := l) (workers := nw) (by rw [HR.out])
      have hfE : f.er = newF (ps.map PtM.er) l nw.toNat := by rw [HE.out, ← hnf, HR.out]
      have hFine : f.er.Fine := by rw [hfE]; exact new_fine hck (by omega) (by omega) hpo
      have hHon : f.er.Honest := by rw [hfE]; exact new_honest _ _ _
      have hps0 : f.er.ps = ps.map PtM.er := by rw [hfE]; rfl
      have hpl0 : f.er.pl = l := by rw [hfE]; rfl
      have hckf := hFine.ck
      clear hfE hnf
      by_cases hm : 120 < l3.length
      · have h2 := HR2.out
        rw [runP_many hckf hm] at h2
        injection h2 with _ h2
        injection h2 with _ h2
        subst h2
        clear hp6 rl6 hO6 hFine hHon hps0 hpl0 hck hckf hpo hn1 hn4 hm
        go_wp2
        go_ret
        exact ⟨rfl, hB6⟩
      · have h2 := HR2.out
        rw [runP_ok hckf hm] at h2
        injection h2 with h2 h2'
        injection h2' with _ h2'
        subst h2'
        obtain ⟨hF2, hH2, hps2, hpl2⟩ := run_honest l3 hFine hHon
        rw [h2, ← hE5] at hF2 hH2 hps2 hpl2
        rw [hps0] at hps2
        rw [hpl0] at hpl2
        clear h2 hckf hm hFine hHon hps0 hpl0 hn1 hn4 hpo hck HR HE HR2 hE5
        have hdl : f'.dn.length = l.length := by have a := hF2.ld; rw [hpl2] at a; exact a
        have hhl : f'.hv.length = l.length := by have a := hF2.lh; rw [hpl2] at a; simpa [FrM.er] using a
        have t2 : ((f'.dn.length : Int) != (l.length : Int)) = false := by rw [hdl]; simp
        have t3 : ((f'.hv.length : Int) != (l.length : Int)) = false := by rw [hhl]; simp
        have hlm : l.length ≤ 23 := by have a := (ckPlan_zero hF2.pl).2.2.1; rw [hpl2] at a; exact a
        have HF2 := Lib.hid hF2
        have HH2 := Lib.hid hH2
        have HPS := Lib.hid hps2
        have HPL := Lib.hid hpl2
        have HDL := Lib.hid hdl
        have HHL := Lib.hid hhl
        have CK := Lib.hid (farmCheck_any f' w6 hO6.at_)
        rw [hF2.ck] at CK
        clear hF2 hH2 hps2 hpl2 hdl hhl
        (have q0 := (kF6).cell 0; have q1 := (kF6).cell 1; have q2 := (kF6).cell 2; have q3 := (kF6).cell 3; have q4 := (kF6).cell 4; have q5 := (kF6).cell 5; have q6 := (kF6).cell 6; have q7 := (kF6).cell 7)
        go_wp2_with fail
        refine CK.out.mono ?_
        rintro e w7 ⟨rfl, hb7⟩
        replace kF6 := kF6.all hb7
        replace hO6 := hO6.all hb7
        replace hp6 := hp6.keep hb7 hb7.size
        replace rl6 := (rl6.below hb7).more hb7.size
        replace hB6 := hB6.trans (hb7.mono hB6.size)
        clear q0 q1 q2 q3 q4 q5 q6 q7 CK hb7
        have q3 := kF6.cell 3
        have q4 := kF6.cell 4
        have hpos : 0 < ps.length := by have a := (ckPlan_zero HF2.out.pl).1; rw [HPS.out] at a; simp only [List.length_map] at a; omega
        obtain ⟨bA, oA, eA, _, _⟩ := hp6.row.2 hpos
        subst eA
        go_wp2_with fail
        go_loopw [73] (fun i wr => ∃ k : Nat, k ≤ l.length ∧ i = .int .i64 k ∧ Below w7.heap.size w7 wr) (fun i _ => l.length - (intOf i).toNat)
        case atStart => exact ⟨0, Nat.zero_le _, rfl, Below.refl _ _⟩
        case round =>
          clear q3 q4 t2 t3
          obtain ⟨k, hk, rfl, hb⟩ := hrel
          have kF := kF6.all hb
          have hO := hO6.all hb
          have hp7 := hp6.keep hb hb.size
          have rl7 := (rl6.below hb).more hb.size
          by_cases hlt : k < l.length
          · obtain ⟨x, hx⟩ : ∃ x, l[k]? = some x := ⟨_, List.getElem?_eq_getElem hlt⟩
            have hdl1 : k < f'.dn.length := by have a := HDL.out; omega
            have hhl1 : k < f'.hv.length := by have a := HHL.out; omega
            obtain ⟨d, hd⟩ : ∃ d, f'.dn[k]? = some d := ⟨_, List.getElem?_eq_getElem hdl1⟩
            obtain ⟨bl, ol, eal, bll, hcl⟩ := cells_get Nd.cells_len (show Reads wr wr.heap.size 3 Al l.length (l.flatMap Nd.cells) from rl7) hx
            have l0 := hcl 0 _ rfl
            have l1 := hcl 1 _ rfl
            have l2 := hcl 2 _ rfl
            rw [Nat.add_zero] at l0
            obtain ⟨bn, on, ead, bln, hcn⟩ := hO.at_.dn.2 (by show 0 < f'.dn.length; omega)
            have cd := hcn k (.bool d) (by simp only [boolsV, List.getElem?_map, hd]; rfl)
            have HX := Lib.hid hx
            have HD := Lib.hid hd
            have i1 : (k : Int) < (l.length : Int) := by omega
            have i2 : (k : Int) < (f'.dn.length : Int) := by omega
            have i3 : (k : Int) < (f'.hv.length : Int) := by omega
            have kF2 : Blk wr gF 29 _ := kF
            rw [ead] at kF2
            have q3 := kF2.cell 3
            clear hcl hcn hx hd
            go_upto_region 15 with (fail)
            have kX := Blk.new wr 39 #[.int .i64 x.leaf, .int .i64 x.left, .int .i64 x.right]
            have hbx : Below wr.heap.size wr (wr.alloc (.cells #[.int .i64 x.leaf, .int .i64 x.left, .int .i64 x.right] 39)) := by (repeat' (first | exact Below.refl _ _ | assumption | refine Below.setCell ?_ (by first | omega | exact Below.size (by assumption) | (simp; done) | (simp; omega)) _ | refine Below.alloc ?_ (by first | omega | exact Below.size (by assumption) | (simp; done) | (simp; omega)) _ | refine Below.drew ?_ | refine below_drewN ?_ _))
            replace kF := kF2.all hbx
            replace hO := hO.all hbx
            replace hp7 := hp7.keep hbx hbx.size
            replace cd := (hbx.cell (p := ⟨bn, on + k, none⟩) bln).trans cd
            replace bln := Nat.lt_of_lt_of_le bln hbx.size
            replace hb := hb.trans (hbx.mono hb.size)
            obtain ⟨gX, hgX⟩ : ∃ x, x = wr.heap.size := ⟨_, rfl⟩
            obtain ⟨W, hW⟩ : ∃ y, y = wr.alloc (.cells #[.int .i64 x.leaf, .int .i64 x.left, .int .i64 x.right] 39) := ⟨_, rfl⟩
            rw [← hgX] at kX ⊢
            rw [← hW] at kX kF hO hp7 hb bln cd ⊢
            clear hW hgX hbx l0 l1 l2 q3 kF2 rl7 eal bll
            have q3 := kF.cell 3
            cases d with
            | false =>
              clear ead
              go_wp2
              go_roundw
              case rel => exact ⟨k + 1, by omega, by go_num, hb⟩
              case measure => simp [intOf]; omega
            | true =>
              have HI := HH2.out.dn k x (by rw [HPL.out]; exact HX.out) (getD_of _ HD.out)
              obtain ⟨yk, hyk⟩ : ∃ p, f'.hv[k]? = some p := ⟨_, List.getElem?_eq_getElem hhl1⟩
              have hgk : f'.er.hv.getD k .nil = yk.er := getD_of _ (by simp only [FrM.er, List.getElem?_map, hyk]; rfl)
              rw [hgk] at HI
              have hYK := hO.at_.hv.each yk (List.mem_of_getElem? hyk)
              obtain ⟨bh, oh, eah, blh, c0, c1⟩ := pt_get hO.at_.hv.row hyk
              rw [eah] at kF
              have hfalls := (ckPlan_zero HF2.out.pl).2.2.2.2.1 k x (by rw [HPL.out]; exact HX.out)
              have x0 := kX.cell 0
              clear hgk hyk
              go_upto_region 16 with (fail)
              by_cases hl0 : 0 ≤ x.leaf
              · have t0 : decide ((0 : Int) ≤ x.leaf) = true := decide_eq_true hl0
                unfold Nd.bad at hfalls
                rw [if_pos hl0] at hfalls
                obtain ⟨a, ha⟩ : ∃ a : Nat, x.leaf = a := ⟨x.leaf.toNat, by omega⟩
                have hal : a < ps.length := by rw [HPS.out] at hfalls; simp only [List.length_map] at hfalls; omega
                obtain ⟨p, hp⟩ : ∃ p, ps[a]? = some p := ⟨_, List.getElem?_eq_getElem hal⟩
                have HYE : Hid (decide (yk.er = p.er) = true) := decide_eq_true (by
                  have b := HI.1 hl0
                  rw [HPS.out, ha, Int.toNat_natCast] at b
                  rw [b]
                  exact getD_of _ (by simp only [List.getElem?_map, hp]; rfl))
                have hPA := hp7.each p (List.mem_of_getElem? hp)
                obtain ⟨bp, op, eap, blp, d0, d1⟩ := pt_get hp7.row hp
                injection eap with eap
                injection eap with e1 e2
                subst e1 e2
                rw [ha] at x0 t0 kX
                have hal2 : (a : Int) < (ps.length : Int) := by omega
                clear hfalls hp HI
                go_upto_region 17 with (fail)
                have hS : Hid (∀ w', Below W.heap.size W w' → (w'.cell? ⟨gF, 4, none⟩ = some (.slice (some ⟨bh, oh, none⟩) f'.hv.length f'.hc) ∧ w'.cell? ⟨bh, oh + k * 2, none⟩ = some (.slice yk.fa yk.frs.length yk.fc) ∧ w'.cell? ⟨bh, oh + k * 2 + 1, none⟩ = some (.slice yk.da yk.dfs.length yk.dc) ∧ w'.cell? ⟨gX, 0, none⟩ = some (.int .i64 a) ∧ w'.cell? ⟨bA, oA + a * 2, none⟩ = some (.slice p.fa p.frs.length p.fc) ∧ w'.cell? ⟨bA, oA + a * 2 + 1, none⟩ = some (.slice p.da p.dfs.length p.dc))) :=
                  fun w' h => ⟨(kF.all h).cell 4, (h.cell (p := ⟨bh, oh + k * 2, none⟩) blh).trans c0, (h.cell (p := ⟨bh, oh + k * 2 + 1, none⟩) blh).trans c1, (kX.all h).cell 0, (h.cell (p := ⟨bA, oA + a * 2, none⟩) blp).trans d0, (h.cell (p := ⟨bA, oA + a * 2 + 1, none⟩) blp).trans d1⟩
                have hb1 := (Below.refl W.heap.size W).drew
                refine wp_region_late (S := (fun w' => (w'.cell? ⟨gF, 4, none⟩ = some (.slice (some ⟨bh, oh, none⟩) f'.hv.length f'.hc) ∧ w'.cell? ⟨bh, oh + k * 2, none⟩ = some (.slice yk.fa yk.frs.length yk.fc) ∧ w'.cell? ⟨bh, oh + k * 2 + 1, none⟩ = some (.slice yk.da yk.dfs.length yk.dc) ∧ w'.cell? ⟨gX, 0, none⟩ = some (.int .i64 a) ∧ w'.cell? ⟨bA, oA + a * 2, none⟩ = some (.slice p.fa p.frs.length p.fc) ∧ w'.cell? ⟨bA, oA + a * 2 + 1, none⟩ = some (.slice p.da p.dfs.length p.dc)))) [] (by kernel_rfl) (hS.out _ hb1) (fun hHeld => ?_)
                obtain ⟨wv, hwv⟩ : ∃ x, x = W.drew := ⟨_, rfl⟩
                rw [← hwv] at hb1 hHeld ⊢
                clear hwv c0 c1 d0 d1 x0 q3 cd ead eah
                (refine wpAnyLT_take (i := 0) (oi := { dst := some 87, op := Op.fieldAddr 29 (Operand.tmp 11) 4, type := 0, pos := "law8.go:405", after := #[], guard := none }) (v := ?_) rfl (by kernel_rfl) (by kernel_rfl) (by kernel_rfl) (fun _ _ _ h => h) (Or.inl ⟨by rfl, ?_⟩) (by assumption) (by kernel_rfl) (by rfl) (by kernel_rfl) ?_; rotate_left; (focus (intro w hSw; (try dsimp only at hSw); go_simp; (try with_reducible rfl))); (try simp only [Act.put, List.setIfInBounds_toArray, List.set_cons_zero, List.set_cons_succ]))
                (refine wpAnyLT_take (i := 1) (oi := { dst := some 88, op := Op.load 22 (Operand.tmp 87), type := 22, pos := "law8.go:405", after := #[{ on := 0, ground := Ground.data }], guard := none }) (v := ?_) rfl (by kernel_rfl) (by kernel_rfl) (by kernel_rfl) (fun _ _ _ h => h) (Or.inl ⟨by rfl, ?_⟩) (by assumption) (by kernel_rfl) (by rfl) (by kernel_rfl) ?_; rotate_left; (focus (intro w hSw; (try dsimp only at hSw); go_simp; (try with_reducible rfl))); (try simp only [Act.put, List.setIfInBounds_toArray, List.set_cons_zero, List.set_cons_succ]))
                (refine wpAnyLT_take (i := 2) (oi := { dst := some 89, op := Op.move (Operand.tmp 12), type := 3, pos := "law8.go:405", after := #[], guard := none }) (v := ?_) rfl (by kernel_rfl) (by kernel_rfl) (by kernel_rfl) (fun _ _ _ h => h) (Or.inl ⟨by rfl, ?_⟩) (by assumption) (by kernel_rfl) (by rfl) (by kernel_rfl) ?_; rotate_left; (focus (intro w hSw; (try dsimp only at hSw); go_simp; (try with_reducible rfl))); (try simp only [Act.put, List.setIfInBounds_toArray, List.set_cons_zero, List.set_cons_succ]))
                (refine wpAnyLT_take (i := 3) (oi := { dst := some 90, op := Op.indexAddr 22 (Operand.tmp 88) (Operand.tmp 89), type := 0, pos := "law8.go:405", after := #[{ on := 1, ground := Ground.data }, { on := 2, ground := Ground.data }], guard := none }) (v := ?_) rfl (by kernel_rfl) (by kernel_rfl) (by kernel_rfl) (fun _ _ _ h => h) (Or.inl ⟨by rfl, ?_⟩) (by assumption) (by kernel_rfl) (by rfl) (by kernel_rfl) ?_; rotate_left; (focus (intro w hSw; (try dsimp only at hSw); go_simp; (try with_reducible rfl))); (try simp only [Act.put, List.setIfInBounds_toArray, List.set_cons_zero, List.set_cons_succ]))
                (refine wpAnyLT_take (i := 4) (oi := { dst := some 91, op := Op.load 44 (Operand.tmp 90), type := 44, pos := "law8.go:405", after := #[{ on := 3, ground := Ground.data }], guard := none }) (v := ?_) rfl (by kernel_rfl) (by kernel_rfl) (by kernel_rfl) (fun _ _ _ h => h) (Or.inl ⟨by rfl, ?_⟩) (by assumption) (by kernel_rfl) (by rfl) (by kernel_rfl) ?_; rotate_left; (focus (intro w hSw; (try dsimp only at hSw); go_simp; (try with_reducible rfl))); (try simp only [Act.put, List.setIfInBounds_toArray, List.set_cons_zero, List.set_cons_succ]))
                (refine wpAnyLT_take (i := 5) (oi := { dst := some 92, op := Op.move (Operand.tmp 0), type := 22, pos := "law8.go:405", after := #[], guard := none }) (v := ?_) rfl (by kernel_rfl) (by kernel_rfl) (by kernel_rfl) (fun _ _ _ h => h) (Or.inl ⟨by rfl, ?_⟩) (by assumption) (by kernel_rfl) (by rfl) (by kernel_rfl) ?_; rotate_left; (focus (intro w hSw; (try dsimp only at hSw); go_simp; (try with_reducible rfl))); (try simp only [Act.put, List.setIfInBounds_toArray, List.set_cons_zero, List.set_cons_succ]))
                (refine wpAnyLT_take (i := 6) (oi := { dst := some 93, op := Op.fieldAddr 39 (Operand.tmp 13) 0, type := 0, pos := "law8.go:405", after := #[], guard := none }) (v := ?_) rfl (by kernel_rfl) (by kernel_rfl) (by kernel_rfl) (fun _ _ _ h => h) (Or.inl ⟨by rfl, ?_⟩) (by assumption) (by kernel_rfl) (by rfl) (by kernel_rfl) ?_; rotate_left; (focus (intro w hSw; (try dsimp only at hSw); go_simp; (try with_reducible rfl))); (try simp only [Act.put, List.setIfInBounds_toArray, List.set_cons_zero, List.set_cons_succ]))
                (refine wpAnyLT_take (i := 7) (oi := { dst := some 94, op := Op.load 3 (Operand.tmp 93), type := 3, pos := "law8.go:405", after := #[{ on := 6, ground := Ground.data }], guard := none }) (v := ?_) rfl (by kernel_rfl) (by kernel_rfl) (by kernel_rfl) (fun _ _ _ h => h) (Or.inl ⟨by rfl, ?_⟩) (by assumption) (by kernel_rfl) (by rfl) (by kernel_rfl) ?_; rotate_left; (focus (intro w hSw; (try dsimp only at hSw); go_simp; (try with_reducible rfl))); (try simp only [Act.put, List.setIfInBounds_toArray, List.set_cons_zero, List.set_cons_succ]))
                (refine wpAnyLT_take (i := 8) (oi := { dst := some 95, op := Op.indexAddr 22 (Operand.tmp 92) (Operand.tmp 94), type := 0, pos := "law8.go:405", after := #[{ on := 5, ground := Ground.data }, { on := 7, ground := Ground.data }], guard := none }) (v := ?_) rfl (by kernel_rfl) (by kernel_rfl) (by kernel_rfl) (fun _ _ _ h => h) (Or.inl ⟨by rfl, ?_⟩) (by assumption) (by kernel_rfl) (by rfl) (by kernel_rfl) ?_; rotate_left; (focus (intro w hSw; (try dsimp only at hSw); go_simp; (try with_reducible rfl))); (try simp only [Act.put, List.setIfInBounds_toArray, List.set_cons_zero, List.set_cons_succ]))
                (refine wpAnyLT_take (i := 9) (oi := { dst := some 96, op := Op.load 44 (Operand.tmp 95), type := 44, pos := "law8.go:405", after := #[{ on := 8, ground := Ground.data }], guard := none }) (v := ?_) rfl (by kernel_rfl) (by kernel_rfl) (by kernel_rfl) (fun _ _ _ h => h) (Or.inl ⟨by rfl, ?_⟩) (by assumption) (by kernel_rfl) (by rfl) (by kernel_rfl) ?_; rotate_left; (focus (intro w hSw; (try dsimp only at hSw); go_simp; (try with_reducible rfl))); (try simp only [Act.put, List.setIfInBounds_toArray, List.set_cons_zero, List.set_cons_succ]))
                have SM := Lib.hid (same_any yk p wv (hYK.all hb1) (hPA.all hb1))
                rw [HYE.out] at SM
                (refine wpAnyL_ready (rs := [10]) (by kernel_rfl) (by simp) ?_; refine List.forall_mem_cons.2 ⟨stepL (o := { dst := some 97, op := Op.call { callee := Callee.value (Operand.func 12), args := #[Operand.tmp 91, Operand.tmp 96], argTypes := #[44, 44] }, type := 4, pos := "law8.go:405", after := #[{ on := 4, ground := Ground.data }, { on := 9, ground := Ground.data }], guard := none }) rfl (fun K hK => ?_), fun _ h => by cases h⟩; (try go_simp); (go_at_call 12; refine SM.out.mono ?_; rintro e w2 ⟨rfl, hb2'⟩; have hb2 := hb1.trans (hb2'.mono hb1.size)); go_wp2_with fail; refine hK.out _ _ (hS.out _ hb2) (fun hHeld => ?_); (clear hK K; (try simp only [Act.put, List.setIfInBounds_toArray, List.set_cons_zero, List.set_cons_succ])))
                (refine wpAnyLT_take (i := 11) (oi := { dst := some 98, op := Op.unOp UnOp.not 4 (Operand.tmp 97), type := 4, pos := "law8.go:405", after := #[{ on := 10, ground := Ground.data }], guard := none }) (v := ?_) rfl (by kernel_rfl) (by kernel_rfl) (by kernel_rfl) (fun _ _ _ h => h) (Or.inl ⟨by rfl, ?_⟩) (by assumption) (by kernel_rfl) (by rfl) (by kernel_rfl) ?_; rotate_left; (focus (intro w hSw; (try dsimp only at hSw); go_simp; (try with_reducible rfl))); (try simp only [Act.put, List.setIfInBounds_toArray, List.set_cons_zero, List.set_cons_succ]))
                refine wpAnyL_done (by kernel_rfl) ?_ _
                have hbn := hb.trans (hb2.mono hb.size)
                clear SM hHeld hS
                go_wp2
                go_roundw
                case rel => exact ⟨k + 1, by omega, by go_num, hbn⟩
                case measure => simp [intOf]; omega
              · have t0 : decide ((0 : Int) ≤ x.leaf) = false := decide_eq_false hl0
                unfold Nd.bad at hfalls
                rw [if_neg hl0] at hfalls
                obtain ⟨a, ha⟩ : ∃ a : Nat, x.left = a := ⟨x.left.toNat, by omega⟩
                obtain ⟨d, hd⟩ : ∃ a : Nat, x.right = a := ⟨x.right.toNat, by omega⟩
                have m5 : a < f'.dn.length := by have b := HDL.out; omega
                have m6 : d < f'.dn.length := by have b := HDL.out; omega
                have m7 : a < f'.hv.length := by have b := HHL.out; omega
                have m8 : d < f'.hv.length := by have b := HHL.out; omega
                have m1 : (a : Int) < (f'.dn.length : Int) := by omega
                have m2 : (d : Int) < (f'.dn.length : Int) := by omega
                have m3 : (a : Int) < (f'.hv.length : Int) := by omega
                have m4 : (d : Int) < (f'.hv.length : Int) := by omega
                obtain ⟨g1, g2, g3⟩ := HI.2 hl0
                rw [ha, Int.toNat_natCast] at g1 g3
                rw [hd, Int.toNat_natCast] at g2 g3
                obtain ⟨pa, hpa⟩ : ∃ p, f'.dn[a]? = some p := ⟨_, List.getElem?_eq_getElem m5⟩
                obtain ⟨pd, hpd⟩ : ∃ p, f'.dn[d]? = some p := ⟨_, List.getElem?_eq_getElem m6⟩
                obtain rfl : pa = true := (getD_of false hpa).symm.trans g1
                obtain rfl : pd = true := (getD_of false hpd).symm.trans g2
                obtain ⟨ya, hya⟩ : ∃ p, f'.hv[a]? = some p := ⟨_, List.getElem?_eq_getElem m7⟩
                obtain ⟨yd, hyd⟩ : ∃ p, f'.hv[d]? = some p := ⟨_, List.getElem?_eq_getElem m8⟩
                have HJ : Hid (joinP ya.er yd.er = (yk.er, 0)) := by
                  show _ = _
                  rw [← g3, show f'.er.hv.getD a .nil = ya.er from getD_of _ (by simp only [FrM.er, List.getElem?_map, hya]; rfl), show f'.er.hv.getD d .nil = yd.er from getD_of _ (by simp only [FrM.er, List.getElem?_map, hyd]; rfl)]
                have hYA := hO.at_.hv.each ya (List.mem_of_getElem? hya)
                have hYD := hO.at_.hv.each yd (List.mem_of_getElem? hyd)
                obtain ⟨bn', on', ead', _, hcn⟩ := hO.at_.dn.2 (by show 0 < f'.dn.length; omega)
                rw [ead] at ead'
                injection ead' with ead'
                injection ead' with e1 e2
                subst e1 e2
                have ca := hcn a (.bool true) (by simp only [boolsV, List.getElem?_map, hpa]; rfl)
                have ce := hcn d (.bool true) (by simp only [boolsV, List.getElem?_map, hpd]; rfl)
                obtain ⟨bh', oh', eah', _, u0, u1⟩ := pt_get hO.at_.hv.row hya
                rw [eah] at eah'
                injection eah' with eah'
                injection eah' with e1 e2
                subst e1 e2
                obtain ⟨bh', oh', eah', _, v0, v1⟩ := pt_get hO.at_.hv.row hyd
                rw [eah] at eah'
                injection eah' with eah'
                injection eah' with e1 e2
                subst e1 e2
                have x1 := kX.cell 1
                have x2 := kX.cell 2
                rw [ha] at x1 kX
                rw [hd] at x2 kX
                have q4 := kF.cell 4
                clear hfalls g1 g2 g3 hpa hpd hya hyd HI hcn ead eah hl0 ha hd
                go_upto_region 19 with (fail)
                go_cut [14, 15] (fun bx en wx => ∃ (q : PtM) (n : Int) (gq : Nat), bx = .pointer (some ⟨gq, 0, none⟩) ∧ en = .int .i64 n ∧ Hid (joinP ya.er yd.er = (q.er, n)) ∧ Blk wx gq 44 #[.slice q.fa q.frs.length q.fc, .slice q.da q.dfs.length q.dc] ∧ q.Own wx W.heap.size ∧ Below W.heap.size W wx)
                case first =>
                  have hS : Hid (∀ w', Below W.heap.size W w' → (w'.cell? ⟨gF, 4, none⟩ = some (.slice (some ⟨bh, oh, none⟩) f'.hv.length f'.hc) ∧ w'.cell? ⟨gX, 1, none⟩ = some (.int .i64 a) ∧ w'.cell? ⟨gX, 2, none⟩ = some (.int .i64 d) ∧ w'.cell? ⟨bh, oh + a * 2, none⟩ = some (.slice ya.fa ya.frs.length ya.fc) ∧ w'.cell? ⟨bh, oh + a * 2 + 1, none⟩ = some (.slice ya.da ya.dfs.length ya.dc) ∧ w'.cell? ⟨bh, oh + d * 2, none⟩ = some (.slice yd.fa yd.frs.length yd.fc) ∧ w'.cell? ⟨bh, oh + d * 2 + 1, none⟩ = some (.slice yd.da yd.dfs.length yd.dc))) :=
                    fun w' h => ⟨(kF.all h).cell 4, (kX.all h).cell 1, (kX.all h).cell 2, (h.cell (p := ⟨bh, oh + a * 2, none⟩) blh).trans u0, (h.cell (p := ⟨bh, oh + a * 2 + 1, none⟩) blh).trans u1, (h.cell (p := ⟨bh, oh + d * 2, none⟩) blh).trans v0, (h.cell (p := ⟨bh, oh + d * 2 + 1, none⟩) blh).trans v1⟩
                  have hB := hb
                  clear hb
                  have hb := (Below.refl W.heap.size W).drew
                  refine wp_region_late (S := (fun w' => (w'.cell? ⟨gF, 4, none⟩ = some (.slice (some ⟨bh, oh, none⟩) f'.hv.length f'.hc) ∧ w'.cell? ⟨gX, 1, none⟩ = some (.int .i64 a) ∧ w'.cell? ⟨gX, 2, none⟩ = some (.int .i64 d) ∧ w'.cell? ⟨bh, oh + a * 2, none⟩ = some (.slice ya.fa ya.frs.length ya.fc) ∧ w'.cell? ⟨bh, oh + a * 2 + 1, none⟩ = some (.slice ya.da ya.dfs.length ya.dc) ∧ w'.cell? ⟨bh, oh + d * 2, none⟩ = some (.slice yd.fa yd.frs.length yd.fc) ∧ w'.cell? ⟨bh, oh + d * 2 + 1, none⟩ = some (.slice yd.da yd.dfs.length yd.dc)))) [] (by kernel_rfl) (hS.out _ hb) (fun hHeld => ?_)
                  obtain ⟨wv, hwv⟩ : ∃ x, x = W.drew := ⟨_, rfl⟩
                  rw [← hwv] at hb hHeld ⊢
                  clear hwv c0 c1 u0 u1 v0 v1 q3 q4 x0 x1 x2 cd ca ce
                  (refine wpAnyLT_take (i := 0) (oi := { dst := some 100, op := Op.fieldAddr 29 (Operand.tmp 11) 4, type := 0, pos := "law8.go:410", after := #[], guard := none }) (v := ?_) rfl (by kernel_rfl) (by kernel_rfl) (by kernel_rfl) (fun _ _ _ h => h) (Or.inl ⟨by rfl, ?_⟩) (by assumption) (by kernel_rfl) (by rfl) (by kernel_rfl) ?_; rotate_left; (focus (intro w hSw; (try dsimp only at hSw); go_simp; (try with_reducible rfl))); (try simp only [Act.put, List.setIfInBounds_toArray, List.set_cons_zero, List.set_cons_succ]))
                  (refine wpAnyLT_take (i := 1) (oi := { dst := some 101, op := Op.load 22 (Operand.tmp 100), type := 22, pos := "law8.go:410", after := #[{ on := 0, ground := Ground.data }], guard := none }) (v := ?_) rfl (by kernel_rfl) (by kernel_rfl) (by kernel_rfl) (fun _ _ _ h => h) (Or.inl ⟨by rfl, ?_⟩) (by assumption) (by kernel_rfl) (by rfl) (by kernel_rfl) ?_; rotate_left; (focus (intro w hSw; (try dsimp only at hSw); go_simp; (try with_reducible rfl))); (try simp only [Act.put, List.setIfInBounds_toArray, List.set_cons_zero, List.set_cons_succ]))
                  (refine wpAnyLT_take (i := 2) (oi := { dst := some 102, op := Op.fieldAddr 39 (Operand.tmp 13) 1, type := 0, pos := "law8.go:410", after := #[], guard := none }) (v := ?_) rfl (by kernel_rfl) (by kernel_rfl) (by kernel_rfl) (fun _ _ _ h => h) (Or.inl ⟨by rfl, ?_⟩) (by assumption) (by kernel_rfl) (by rfl) (by kernel_rfl) ?_; rotate_left; (focus (intro w hSw; (try dsimp only at hSw); go_simp; (try with_reducible rfl))); (try simp only [Act.put, List.setIfInBounds_toArray, List.set_cons_zero, List.set_cons_succ]))
                  (refine wpAnyLT_take (i := 3) (oi := { dst := some 103, op := Op.load 3 (Operand.tmp 102), type := 3, pos := "law8.go:410", after := #[{ on := 2, ground := Ground.data }], guard := none }) (v := ?_) rfl (by kernel_rfl) (by kernel_rfl) (by kernel_rfl) (fun _ _ _ h => h) (Or.inl ⟨by rfl, ?_⟩) (by assumption) (by kernel_rfl) (by rfl) (by kernel_rfl) ?_; rotate_left; (focus (intro w hSw; (try dsimp only at hSw); go_simp; (try with_reducible rfl))); (try simp only [Act.put, List.setIfInBounds_toArray, List.set_cons_zero, List.set_cons_succ]))
                  (refine wpAnyLT_take (i := 4) (oi := { dst := some 104, op := Op.indexAddr 22 (Operand.tmp 101) (Operand.tmp 103), type := 0, pos := "law8.go:410", after := #[{ on := 1, ground := Ground.data }, { on := 3, ground := Ground.data }], guard := none }) (v := ?_) rfl (by kernel_rfl) (by kernel_rfl) (by kernel_rfl) (fun _ _ _ h => h) (Or.inl ⟨by rfl, ?_⟩) (by assumption) (by kernel_rfl) (by rfl) (by kernel_rfl) ?_; rotate_left; (focus (intro w hSw; (try dsimp only at hSw); go_simp; (try with_reducible rfl))); (try simp only [Act.put, List.setIfInBounds_toArray, List.set_cons_zero, List.set_cons_succ]))
                  (refine wpAnyLT_take (i := 5) (oi := { dst := some 105, op := Op.load 44 (Operand.tmp 104), type := 44, pos := "law8.go:410", after := #[{ on := 4, ground := Ground.data }], guard := none }) (v := ?_) rfl (by kernel_rfl) (by kernel_rfl) (by kernel_rfl) (fun _ _ _ h => h) (Or.inl ⟨by rfl, ?_⟩) (by assumption) (by kernel_rfl) (by rfl) (by kernel_rfl) ?_; rotate_left; (focus (intro w hSw; (try dsimp only at hSw); go_simp; (try with_reducible rfl))); (try simp only [Act.put, List.setIfInBounds_toArray, List.set_cons_zero, List.set_cons_succ]))
                  (refine wpAnyLT_take (i := 6) (oi := { dst := some 106, op := Op.fieldAddr 29 (Operand.tmp 11) 4, type := 0, pos := "law8.go:410", after := #[], guard := none }) (v := ?_) rfl (by kernel_rfl) (by kernel_rfl) (by kernel_rfl) (fun _ _ _ h => h) (Or.inl ⟨by rfl, ?_⟩) (by assumption) (by kernel_rfl) (by rfl) (by kernel_rfl) ?_; rotate_left; (focus (intro w hSw; (try dsimp only at hSw); go_simp; (try with_reducible rfl))); (try simp only [Act.put, List.setIfInBounds_toArray, List.set_cons_zero, List.set_cons_succ]))
                  (refine wpAnyLT_take (i := 7) (oi := { dst := some 107, op := Op.load 22 (Operand.tmp 106), type := 22, pos := "law8.go:410", after := #[{ on := 6, ground := Ground.data }], guard := none }) (v := ?_) rfl (by kernel_rfl) (by kernel_rfl) (by kernel_rfl) (fun _ _ _ h => h) (Or.inl ⟨by rfl, ?_⟩) (by assumption) (by kernel_rfl) (by rfl) (by kernel_rfl) ?_; rotate_left; (focus (intro w hSw; (try dsimp only at hSw); go_simp; (try with_reducible rfl))); (try simp only [Act.put, List.setIfInBounds_toArray, List.set_cons_zero, List.set_cons_succ]))
                  (refine wpAnyLT_take (i := 8) (oi := { dst := some 108, op := Op.fieldAddr 39 (Operand.tmp 13) 2, type := 0, pos := "law8.go:410", after := #[], guard := none }) (v := ?_) rfl (by kernel_rfl) (by kernel_rfl) (by kernel_rfl) (fun _ _ _ h => h) (Or.inl ⟨by rfl, ?_⟩) (by assumption) (by kernel_rfl) (by rfl) (by kernel_rfl) ?_; rotate_left; (focus (intro w hSw; (try dsimp only at hSw); go_simp; (try with_reducible rfl))); (try simp only [Act.put, List.setIfInBounds_toArray, List.set_cons_zero, List.set_cons_succ]))
                  (refine wpAnyLT_take (i := 9) (oi := { dst := some 109, op := Op.load 3 (Operand.tmp 108), type := 3, pos := "law8.go:410", after := #[{ on := 8, ground := Ground.data }], guard := none }) (v := ?_) rfl (by kernel_rfl) (by kernel_rfl) (by kernel_rfl) (fun _ _ _ h => h) (Or.inl ⟨by rfl, ?_⟩) (by assumption) (by kernel_rfl) (by rfl) (by kernel_rfl) ?_; rotate_left; (focus (intro w hSw; (try dsimp only at hSw); go_simp; (try with_reducible rfl))); (try simp only [Act.put, List.setIfInBounds_toArray, List.set_cons_zero, List.set_cons_succ]))
                  (refine wpAnyLT_take (i := 10) (oi := { dst := some 110, op := Op.indexAddr 22 (Operand.tmp 107) (Operand.tmp 109), type := 0, pos := "law8.go:410", after := #[{ on := 7, ground := Ground.data }, { on := 9, ground := Ground.data }], guard := none }) (v := ?_) rfl (by kernel_rfl) (by kernel_rfl) (by kernel_rfl) (fun _ _ _ h => h) (Or.inl ⟨by rfl, ?_⟩) (by assumption) (by kernel_rfl) (by rfl) (by kernel_rfl) ?_; rotate_left; (focus (intro w hSw; (try dsimp only at hSw); go_simp; (try with_reducible rfl))); (try simp only [Act.put, List.setIfInBounds_toArray, List.set_cons_zero, List.set_cons_succ]))
                  (refine wpAnyLT_take (i := 11) (oi := { dst := some 111, op := Op.load 44 (Operand.tmp 110), type := 44, pos := "law8.go:410", after := #[{ on := 10, ground := Ground.data }], guard := none }) (v := ?_) rfl (by kernel_rfl) (by kernel_rfl) (by kernel_rfl) (fun _ _ _ h => h) (Or.inl ⟨by rfl, ?_⟩) (by assumption) (by kernel_rfl) (by rfl) (by kernel_rfl) ?_; rotate_left; (focus (intro w hSw; (try dsimp only at hSw); go_simp; (try with_reducible rfl))); (try simp only [Act.put, List.setIfInBounds_toArray, List.set_cons_zero, List.set_cons_succ]))
                  (refine wpAnyL_ready (rs := [12, 16]) (by kernel_rfl) (by simp) ?_; refine List.forall_mem_cons.2 ⟨?_, List.forall_mem_cons.2 ⟨?_, fun _ h => by cases h⟩⟩)
                  · have JN := Lib.hid (join_any ya yd wv (hYA.all hb) (hYD.all hb))
                    (refine stepL (o := { dst := some 112, op := Op.call { callee := Callee.value (Operand.func 18), args := #[Operand.tmp 105, Operand.tmp 111], argTypes := #[44, 44] }, type := 59, pos := "law8.go:410", after := #[{ on := 5, ground := Ground.data }, { on := 11, ground := Ground.data }], guard := none }) rfl (fun K hK => ?_); (try go_simp); (go_at_call 18; refine JN.out.mono ?_; rintro e w2 ⟨q, rfl, oq, eq, hb2'⟩; have hb2 := hb.trans (hb2'.mono hb.size)); go_wp2_with fail; refine hK.out _ _ (hS.out _ hb2) (fun hHeld => ?_); (clear hK K; (try simp only [Act.put, List.setIfInBounds_toArray, List.set_cons_zero, List.set_cons_succ])))
                    clear JN
                    (refine wpAnyLT_take (i := 13) (oi := { dst := some 99, op := Op.move (Operand.tmp 112), type := 59, pos := "law8.go:410", after := #[{ on := 12, ground := Ground.data }], guard := none }) (v := ?_) rfl (by kernel_rfl) (by kernel_rfl) (by kernel_rfl) (fun _ _ _ h => h) (Or.inl ⟨by rfl, ?_⟩) (by assumption) (by kernel_rfl) (by rfl) (by kernel_rfl) ?_; rotate_left; (focus (intro w hSw; (try dsimp only at hSw); go_simp; (try with_reducible rfl))); (try simp only [Act.put, List.setIfInBounds_toArray, List.set_cons_zero, List.set_cons_succ]))
                    (refine wpAnyLT_take (i := 14) (oi := { dst := some 113, op := Op.extract (Operand.tmp 99) 0, type := 44, pos := "law8.go:410", after := #[{ on := 13, ground := Ground.data }], guard := none }) (v := ?_) rfl (by kernel_rfl) (by kernel_rfl) (by kernel_rfl) (fun _ _ _ h => h) (Or.inl ⟨by rfl, ?_⟩) (by assumption) (by kernel_rfl) (by rfl) (by kernel_rfl) ?_; rotate_left; (focus (intro w hSw; (try dsimp only at hSw); go_simp; (try with_reducible rfl))); (try simp only [Act.put, List.setIfInBounds_toArray, List.set_cons_zero, List.set_cons_succ]))
                    (refine wpAnyLT_take (i := 15) (oi := { dst := some 114, op := Op.extract (Operand.tmp 99) 1, type := 32, pos := "law8.go:410", after := #[{ on := 13, ground := Ground.data }, { on := 17, ground := Ground.gcOnly Departure.lateStores }], guard := none }) (v := ?_) rfl (by kernel_rfl) (by kernel_rfl) (by kernel_rfl) (fun _ _ _ h => h) (Or.inl ⟨by rfl, ?_⟩) (by assumption) (by kernel_rfl) (by rfl) (by kernel_rfl) ?_; rotate_left; (focus (intro w hSw; (try dsimp only at hSw); go_simp; (try with_reducible rfl))); (try simp only [Act.put, List.setIfInBounds_toArray, List.set_cons_zero, List.set_cons_succ]))
                    (refine wpAnyL_ready (rs := [16]) (by kernel_rfl) (by simp) ?_; refine List.forall_mem_cons.2 ⟨?_, fun _ h => by cases h⟩)
                    (refine stepL (o := { dst := some 14, op := Op.alloc 44, type := 0, pos := "law8.go:410", after := #[], guard := none }) rfl (fun K hK => ?_); go_simp; refine hK.out _ _ (hS.out _ (hb2.alloc hb2.size _)) (fun hHeld => ?_); (clear hK K; (try simp only [Act.put, List.setIfInBounds_toArray, List.set_cons_zero, List.set_cons_succ])))
                    have hb3 := hb2.alloc hb2.size (.cells #[.slice none 0 0, .slice none 0 0] 44)
                    have kQ := Blk.new w2 44 #[.slice none 0 0, .slice none 0 0]
                    have gqb : W.heap.size ≤ w2.heap.size := hb2.size
                    have oq3 := (oq.mono hb.size).alloc (.cells #[.slice none 0 0, .slice none 0 0] 44)
                    obtain ⟨gq, hgq⟩ : ∃ x, x = w2.heap.size := ⟨_, rfl⟩
                    obtain ⟨wx, hwx⟩ : ∃ x, x = w2.alloc (.cells #[.slice none 0 0, .slice none 0 0] 44) := ⟨_, rfl⟩
                    rw [← hgq] at kQ gqb ⊢
                    rw [← hwx] at kQ hb3 oq3 hHeld ⊢
                    clear hwx hgq hb2 hb2' oq
                    have q0 := kQ.cell 0
                    have q1 := kQ.cell 1
                    have z0 := kQ.frozen 0
                    have z1 := kQ.frozen 1
                    have hb4 := (hb3.setCell (p := ⟨gq, 0, none⟩) gqb (.slice q.fa q.frs.length q.fc)).setCell (p := ⟨gq, 1, none⟩) gqb (.slice q.da q.dfs.length q.dc)
                    (refine wpAnyL_ready (rs := [17]) (by kernel_rfl) (by simp) ?_; refine List.forall_mem_cons.2 ⟨?_, fun _ h => by cases h⟩)
                    (refine stepL (o := { dst := none, op := Op.store 44 (Operand.tmp 14) (Operand.tmp 113), type := 0, pos := "law8.go:410", after := #[{ on := 16, ground := Ground.data }, { on := 14, ground := Ground.data }, { on := 12, ground := Ground.chain }, { on := 0, ground := Ground.phase }, { on := 1, ground := Ground.phase }, { on := 2, ground := Ground.phase }, { on := 3, ground := Ground.phase }, { on := 4, ground := Ground.phase }, { on := 5, ground := Ground.phase }, { on := 6, ground := Ground.phase }, { on := 7, ground := Ground.phase }, { on := 8, ground := Ground.phase }, { on := 9, ground := Ground.phase }, { on := 10, ground := Ground.phase }, { on := 11, ground := Ground.phase }, { on := 12, ground := Ground.phase }, { on := 13, ground := Ground.phase }, { on := 14, ground := Ground.phase }, { on := 15, ground := Ground.textOnly Departure.lateStores }, { on := 16, ground := Ground.phase }], guard := none }) rfl (fun K hK => ?_); go_simp; refine hK.out _ _ (hS.out _ hb4) (fun hHeld => ?_); (clear hK K; (try simp only [Act.put, List.setIfInBounds_toArray, List.set_cons_zero, List.set_cons_succ])))
                    clear q0 q1 z0 z1
                    (refine wpAnyLT_take (i := 18) (oi := { dst := some 15, op := Op.assign (Operand.tmp 114), type := 32, pos := "law8.go:410", after := #[{ on := 15, ground := Ground.data }, { on := 17, ground := Ground.chain }, { on := 0, ground := Ground.phase }, { on := 1, ground := Ground.phase }, { on := 2, ground := Ground.phase }, { on := 3, ground := Ground.phase }, { on := 4, ground := Ground.phase }, { on := 5, ground := Ground.phase }, { on := 6, ground := Ground.phase }, { on := 7, ground := Ground.phase }, { on := 8, ground := Ground.phase }, { on := 9, ground := Ground.phase }, { on := 10, ground := Ground.phase }, { on := 11, ground := Ground.phase }, { on := 12, ground := Ground.phase }, { on := 13, ground := Ground.phase }, { on := 14, ground := Ground.phase }, { on := 15, ground := Ground.phase }, { on := 16, ground := Ground.phase }, { on := 17, ground := Ground.phase }], guard := none }) (v := ?_) rfl (by kernel_rfl) (by kernel_rfl) (by kernel_rfl) (fun _ _ _ h => h) (Or.inl ⟨by rfl, ?_⟩) (by assumption) (by kernel_rfl) (by rfl) (by kernel_rfl) ?_; rotate_left; (focus (intro w hSw; (try dsimp only at hSw); go_simp; (try with_reducible rfl))); (try simp only [Act.put, List.setIfInBounds_toArray, List.set_cons_zero, List.set_cons_succ]))
                    refine wpAnyL_done (by kernel_rfl) ?_ _
                    go_wp2
                    go_meet
                    exact ⟨q, _, _, rfl, rfl, (by show _ = _; rw [eq]), (kQ.set_ 0 _).set_ 1 _, (oq3.blk kQ (by decide) (by decide) (by decide) (by decide) _).blk (kQ.set_ 0 _) (by decide) (by decide) (by decide) (by decide) _, hb4⟩
                  · (refine stepL (o := { dst := some 14, op := Op.alloc 44, type := 0, pos := "law8.go:410", after := #[], guard := none }) rfl (fun K hK => ?_); go_simp; refine hK.out _ _ (hS.out _ (hb.alloc hb.size _)) (fun hHeld => ?_); (clear hK K; (try simp only [Act.put, List.setIfInBounds_toArray, List.set_cons_zero, List.set_cons_succ])))
                    have kQ := Blk.new wv 44 #[.slice none 0 0, .slice none 0 0]
                    have gqb : W.heap.size ≤ wv.heap.size := hb.size
                    replace hb := hb.alloc hb.size (.cells #[.slice none 0 0, .slice none 0 0] 44)
                    obtain ⟨gq, hgq⟩ : ∃ x, x = wv.heap.size := ⟨_, rfl⟩
                    obtain ⟨wx, hwx⟩ : ∃ x, x = wv.alloc (.cells #[.slice none 0 0, .slice none 0 0] 44) := ⟨_, rfl⟩
                    rw [← hgq] at kQ gqb ⊢
                    rw [← hwx] at kQ hb hHeld ⊢
                    clear hwx hgq
                    have JN := Lib.hid (join_any ya yd wx (hYA.all hb) (hYD.all hb))
                    (refine wpAnyL_ready (rs := [12]) (by kernel_rfl) (by simp) ?_; refine List.forall_mem_cons.2 ⟨?_, fun _ h => by cases h⟩)
                    (refine stepL (o := { dst := some 112, op := Op.call { callee := Callee.value (Operand.func 18), args := #[Operand.tmp 105, Operand.tmp 111], argTypes := #[44, 44] }, type := 59, pos := "law8.go:410", after := #[{ on := 5, ground := Ground.data }, { on := 11, ground := Ground.data }], guard := none }) rfl (fun K hK => ?_); (try go_simp); (go_at_call 18; refine JN.out.mono ?_; rintro e w2 ⟨q, rfl, oq, eq, hb2'⟩; have hb2 := hb.trans (hb2'.mono hb.size)); go_wp2_with fail; refine hK.out _ _ (hS.out _ hb2) (fun hHeld => ?_); (clear hK K; (try simp only [Act.put, List.setIfInBounds_toArray, List.set_cons_zero, List.set_cons_succ])))
                    clear JN
                    (refine wpAnyLT_take (i := 13) (oi := { dst := some 99, op := Op.move (Operand.tmp 112), type := 59, pos := "law8.go:410", after := #[{ on := 12, ground := Ground.data }], guard := none }) (v := ?_) rfl (by kernel_rfl) (by kernel_rfl) (by kernel_rfl) (fun _ _ _ h => h) (Or.inl ⟨by rfl, ?_⟩) (by assumption) (by kernel_rfl) (by rfl) (by kernel_rfl) ?_; rotate_left; (focus (intro w hSw; (try dsimp only at hSw); go_simp; (try with_reducible rfl))); (try simp only [Act.put, List.setIfInBounds_toArray, List.set_cons_zero, List.set_cons_succ]))
                    (refine wpAnyLT_take (i := 14) (oi := { dst := some 113, op := Op.extract (Operand.tmp 99) 0, type := 44, pos := "law8.go:410", after := #[{ on := 13, ground := Ground.data }], guard := none }) (v := ?_) rfl (by kernel_rfl) (by kernel_rfl) (by kernel_rfl) (fun _ _ _ h => h) (Or.inl ⟨by rfl, ?_⟩) (by assumption) (by kernel_rfl) (by rfl) (by kernel_rfl) ?_; rotate_left; (focus (intro w hSw; (try dsimp only at hSw); go_simp; (try with_reducible rfl))); (try simp only [Act.put, List.setIfInBounds_toArray, List.set_cons_zero, List.set_cons_succ]))
                    (refine wpAnyLT_take (i := 15) (oi := { dst := some 114, op := Op.extract (Operand.tmp 99) 1, type := 32, pos := "law8.go:410", after := #[{ on := 13, ground := Ground.data }, { on := 17, ground := Ground.gcOnly Departure.lateStores }], guard := none }) (v := ?_) rfl (by kernel_rfl) (by kernel_rfl) (by kernel_rfl) (fun _ _ _ h => h) (Or.inl ⟨by rfl, ?_⟩) (by assumption) (by kernel_rfl) (by rfl) (by kernel_rfl) ?_; rotate_left; (focus (intro w hSw; (try dsimp only at hSw); go_simp; (try with_reducible rfl))); (try simp only [Act.put, List.setIfInBounds_toArray, List.set_cons_zero, List.set_cons_succ]))
                    replace kQ := kQ.all hb2'
                    have oq3 := oq.mono hb.size
                    have q0 := kQ.cell 0
                    have q1 := kQ.cell 1
                    have z0 := kQ.frozen 0
                    have z1 := kQ.frozen 1
                    have hb4 := (hb2.setCell (p := ⟨gq, 0, none⟩) gqb (.slice q.fa q.frs.length q.fc)).setCell (p := ⟨gq, 1, none⟩) gqb (.slice q.da q.dfs.length q.dc)
                    (refine wpAnyL_ready (rs := [17]) (by kernel_rfl) (by simp) ?_; refine List.forall_mem_cons.2 ⟨?_, fun _ h => by cases h⟩)
                    (refine stepL (o := { dst := none, op := Op.store 44 (Operand.tmp 14) (Operand.tmp 113), type := 0, pos := "law8.go:410", after := #[{ on := 16, ground := Ground.data }, { on := 14, ground := Ground.data }, { on := 12, ground := Ground.chain }, { on := 0, ground := Ground.phase }, { on := 1, ground := Ground.phase }, { on := 2, ground := Ground.phase }, { on := 3, ground := Ground.phase }, { on := 4, ground := Ground.phase }, { on := 5, ground := Ground.phase }, { on := 6, ground := Ground.phase }, { on := 7, ground := Ground.phase }, { on := 8, ground := Ground.phase }, { on := 9, ground := Ground.phase }, { on := 10, ground := Ground.phase }, { on := 11, ground := Ground.phase }, { on := 12, ground := Ground.phase }, { on := 13, ground := Ground.phase }, { on := 14, ground := Ground.phase }, { on := 15, ground := Ground.textOnly Departure.lateStores }, { on := 16, ground := Ground.phase }], guard := none }) rfl (fun K hK => ?_); go_simp; refine hK.out _ _ (hS.out _ hb4) (fun hHeld => ?_); (clear hK K; (try simp only [Act.put, List.setIfInBounds_toArray, List.set_cons_zero, List.set_cons_succ])))
                    clear q0 q1 z0 z1
                    (refine wpAnyLT_take (i := 18) (oi := { dst := some 15, op := Op.assign (Operand.tmp 114), type := 32, pos := "law8.go:410", after := #[{ on := 15, ground := Ground.data }, { on := 17, ground := Ground.chain }, { on := 0, ground := Ground.phase }, { on := 1, ground := Ground.phase }, { on := 2, ground := Ground.phase }, { on := 3, ground := Ground.phase }, { on := 4, ground := Ground.phase }, { on := 5, ground := Ground.phase }, { on := 6, ground := Ground.phase }, { on := 7, ground := Ground.phase }, { on := 8, ground := Ground.phase }, { on := 9, ground := Ground.phase }, { on := 10, ground := Ground.phase }, { on := 11, ground := Ground.phase }, { on := 12, ground := Ground.phase }, { on := 13, ground := Ground.phase }, { on := 14, ground := Ground.phase }, { on := 15, ground := Ground.phase }, { on := 16, ground := Ground.phase }, { on := 17, ground := Ground.phase }], guard := none }) (v := ?_) rfl (by kernel_rfl) (by kernel_rfl) (by kernel_rfl) (fun _ _ _ h => h) (Or.inl ⟨by rfl, ?_⟩) (by assumption) (by kernel_rfl) (by rfl) (by kernel_rfl) ?_; rotate_left; (focus (intro w hSw; (try dsimp only at hSw); go_simp; (try with_reducible rfl))); (try simp only [Act.put, List.setIfInBounds_toArray, List.set_cons_zero, List.set_cons_succ]))
                    refine wpAnyL_done (by kernel_rfl) ?_ _
                    go_wp2
                    go_meet
                    exact ⟨q, _, _, rfl, rfl, (by show _ = _; rw [eq]), (kQ.set_ 0 _).set_ 1 _, (oq3.blk kQ (by decide) (by decide) (by decide) (by decide) _).blk (kQ.set_ 0 _) (by decide) (by decide) (by decide) (by decide) _, hb4⟩
                case rest =>
                  obtain ⟨q, n, gq, rfl, rfl, hj, kq, oq, hb6⟩ := hcut
                  have hj2 := HJ.out.symm.trans hj.out
                  injection hj2 with hqe hn0
                  subst hn0
                  have HYE : Hid (decide (q.er = yk.er) = true) := decide_eq_true hqe.symm
                  have hbc := hb.trans (hb6.mono hb.size)
                  replace kF := kF.all hb6
                  replace kX := kX.all hb6
                  replace hYK := hYK.all hb6
                  replace c0 := (hb6.cell (p := ⟨bh, oh + k * 2, none⟩) blh).trans c0
                  replace c1 := (hb6.cell (p := ⟨bh, oh + k * 2 + 1, none⟩) blh).trans c1
                  replace ca := (hb6.cell (p := ⟨bn, on + a, none⟩) bln).trans ca
                  replace ce := (hb6.cell (p := ⟨bn, on + d, none⟩) bln).trans ce
                  replace blh := Nat.lt_of_lt_of_le blh hb6.size
                  replace bln := Nat.lt_of_lt_of_le bln hb6.size
                  clear hj hqe u0 u1 v0 v1 q3 q4 x0 x1 x2 cd hb hYA hYD HJ
                  have hQA := (oq.mono (Nat.zero_le _)).at_
                  go_upto_region 20 with (fail)
                  have hS : Hid (∀ w', Below wc.heap.size wc w' → (w'.cell? ⟨gF, 3, none⟩ = some (.slice (some ⟨bn, on, none⟩) f'.dn.length f'.dc) ∧ w'.cell? ⟨gF, 4, none⟩ = some (.slice (some ⟨bh, oh, none⟩) f'.hv.length f'.hc) ∧ w'.cell? ⟨gX, 1, none⟩ = some (.int .i64 a) ∧ w'.cell? ⟨gX, 2, none⟩ = some (.int .i64 d) ∧ w'.cell? ⟨bn, on + a, none⟩ = some (.bool true) ∧ w'.cell? ⟨bn, on + d, none⟩ = some (.bool true) ∧ w'.cell? ⟨gq, 0, none⟩ = some (.slice q.fa q.frs.length q.fc) ∧ w'.cell? ⟨gq, 1, none⟩ = some (.slice q.da q.dfs.length q.dc) ∧ w'.cell? ⟨bh, oh + k * 2, none⟩ = some (.slice yk.fa yk.frs.length yk.fc) ∧ w'.cell? ⟨bh, oh + k * 2 + 1, none⟩ = some (.slice yk.da yk.dfs.length yk.dc))) :=
                    fun w' h => ⟨(kF.all h).cell 3, (kF.all h).cell 4, (kX.all h).cell 1, (kX.all h).cell 2, (h.cell (p := ⟨bn, on + a, none⟩) bln).trans ca, (h.cell (p := ⟨bn, on + d, none⟩) bln).trans ce, (kq.all h).cell 0, (kq.all h).cell 1, (h.cell (p := ⟨bh, oh + k * 2, none⟩) blh).trans c0, (h.cell (p := ⟨bh, oh + k * 2 + 1, none⟩) blh).trans c1⟩
                  have hb1 := (Below.refl wc.heap.size wc).drew
                  refine wp_region_late (S := (fun w' => (w'.cell? ⟨gF, 3, none⟩ = some (.slice (some ⟨bn, on, none⟩) f'.dn.length f'.dc) ∧ w'.cell? ⟨gF, 4, none⟩ = some (.slice (some ⟨bh, oh, none⟩) f'.hv.length f'.hc) ∧ w'.cell? ⟨gX, 1, none⟩ = some (.int .i64 a) ∧ w'.cell? ⟨gX, 2, none⟩ = some (.int .i64 d) ∧ w'.cell? ⟨bn, on + a, none⟩ = some (.bool true) ∧ w'.cell? ⟨bn, on + d, none⟩ = some (.bool true) ∧ w'.cell? ⟨gq, 0, none⟩ = some (.slice q.fa q.frs.length q.fc) ∧ w'.cell? ⟨gq, 1, none⟩ = some (.slice q.da q.dfs.length q.dc) ∧ w'.cell? ⟨bh, oh + k * 2, none⟩ = some (.slice yk.fa yk.frs.length yk.fc) ∧ w'.cell? ⟨bh, oh + k * 2 + 1, none⟩ = some (.slice yk.da yk.dfs.length yk.dc)))) [] (by kernel_rfl) (hS.out _ hb1) (fun hHeld => ?_)
                  obtain ⟨wv, hwv⟩ : ∃ x, x = wc.drew := ⟨_, rfl⟩
                  rw [← hwv] at hb1 hHeld ⊢
                  clear hwv c0 c1 ca ce
                  (refine wpAnyLT_take (i := 0) (oi := { dst := some 115, op := Op.move (Operand.tmp 15), type := 32, pos := "law8.go:411", after := #[], guard := none }) (v := ?_) rfl (by kernel_rfl) (by kernel_rfl) (by kernel_rfl) (fun _ _ _ h => h) (Or.inl ⟨by rfl, ?_⟩) (by assumption) (by kernel_rfl) (by rfl) (by kernel_rfl) ?_; rotate_left; (focus (intro w hSw; (try dsimp only at hSw); go_simp; (try with_reducible rfl))); (try simp only [Act.put, List.setIfInBounds_toArray, List.set_cons_zero, List.set_cons_succ]))
                  (refine wpAnyLT_take (i := 1) (oi := { dst := some 116, op := Op.binOp BinOp.neq 32 (Operand.tmp 115) (Operand.const (Value.int IntKind.i64 0)) 32, type := 4, pos := "law8.go:411", after := #[{ on := 0, ground := Ground.data }], guard := none }) (v := ?_) rfl (by kernel_rfl) (by kernel_rfl) (by kernel_rfl) (fun _ _ _ h => h) (Or.inl ⟨by rfl, ?_⟩) (by assumption) (by kernel_rfl) (by rfl) (by kernel_rfl) ?_; rotate_left; (focus (intro w hSw; (try dsimp only at hSw); go_simp; (try with_reducible rfl))); (try simp only [Act.put, List.setIfInBounds_toArray, List.set_cons_zero, List.set_cons_succ]))
                  (refine wpAnyLT_take (i := 2) (oi := { dst := some 117, op := Op.move (Operand.tmp 116), type := 4, pos := "law8.go:411", after := #[{ on := 1, ground := Ground.data }], guard := none }) (v := ?_) rfl (by kernel_rfl) (by kernel_rfl) (by kernel_rfl) (fun _ _ _ h => h) (Or.inl ⟨by rfl, ?_⟩) (by assumption) (by kernel_rfl) (by rfl) (by kernel_rfl) ?_; rotate_left; (focus (intro w hSw; (try dsimp only at hSw); go_simp; (try with_reducible rfl))); (try simp only [Act.put, List.setIfInBounds_toArray, List.set_cons_zero, List.set_cons_succ]))
                  (refine wpAnyLT_take (i := 3) (oi := { dst := some 118, op := Op.fieldAddr 29 (Operand.tmp 11) 3, type := 0, pos := "law8.go:411", after := #[{ on := 2, ground := Ground.guard }], guard := some (2, false) }) (v := ?_) rfl (by kernel_rfl) (by kernel_rfl) (by kernel_rfl) (fun _ _ _ h => h) (Or.inl ⟨by rfl, ?_⟩) (by assumption) (by kernel_rfl) (by rfl) (by kernel_rfl) ?_; rotate_left; (focus (intro w hSw; (try dsimp only at hSw); go_simp; (try with_reducible rfl))); (try simp only [Act.put, List.setIfInBounds_toArray, List.set_cons_zero, List.set_cons_succ]))
                  (refine wpAnyLT_take (i := 4) (oi := { dst := some 119, op := Op.load 24 (Operand.tmp 118), type := 24, pos := "law8.go:411", after := #[{ on := 3, ground := Ground.data }, { on := 2, ground := Ground.guard }], guard := some (2, false) }) (v := ?_) rfl (by kernel_rfl) (by kernel_rfl) (by kernel_rfl) (fun _ _ _ h => h) (Or.inl ⟨by rfl, ?_⟩) (by assumption) (by kernel_rfl) (by rfl) (by kernel_rfl) ?_; rotate_left; (focus (intro w hSw; (try dsimp only at hSw); go_simp; (try with_reducible rfl))); (try simp only [Act.put, List.setIfInBounds_toArray, List.set_cons_zero, List.set_cons_succ]))
                  (refine wpAnyLT_take (i := 5) (oi := { dst := some 120, op := Op.fieldAddr 39 (Operand.tmp 13) 1, type := 0, pos := "law8.go:411", after := #[{ on := 2, ground := Ground.guard }], guard := some (2, false) }) (v := ?_) rfl (by kernel_rfl) (by kernel_rfl) (by kernel_rfl) (fun _ _ _ h => h) (Or.inl ⟨by rfl, ?_⟩) (by assumption) (by kernel_rfl) (by rfl) (by kernel_rfl) ?_; rotate_left; (focus (intro w hSw; (try dsimp only at hSw); go_simp; (try with_reducible rfl))); (try simp only [Act.put, List.setIfInBounds_toArray, List.set_cons_zero, List.set_cons_succ]))
                  (refine wpAnyLT_take (i := 6) (oi := { dst := some 121, op := Op.load 3 (Operand.tmp 120), type := 3, pos := "law8.go:411", after := #[{ on := 5, ground := Ground.data }, { on := 2, ground := Ground.guard }], guard := some (2, false) }) (v := ?_) rfl (by kernel_rfl) (by kernel_rfl) (by kernel_rfl) (fun _ _ _ h => h) (Or.inl ⟨by rfl, ?_⟩) (by assumption) (by kernel_rfl) (by rfl) (by kernel_rfl) ?_; rotate_left; (focus (intro w hSw; (try dsimp only at hSw); go_simp; (try with_reducible rfl))); (try simp only [Act.put, List.setIfInBounds_toArray, List.set_cons_zero, List.set_cons_succ]))
                  (refine wpAnyLT_take (i := 7) (oi := { dst := some 122, op := Op.indexAddr 24 (Operand.tmp 119) (Operand.tmp 121), type := 0, pos := "law8.go:411", after := #[{ on := 4, ground := Ground.data }, { on := 6, ground := Ground.data }, { on := 2, ground := Ground.guard }], guard := some (2, false) }) (v := ?_) rfl (by kernel_rfl) (by kernel_rfl) (by kernel_rfl) (fun _ _ _ h => h) (Or.inl ⟨by rfl, ?_⟩) (by assumption) (by kernel_rfl) (by rfl) (by kernel_rfl) ?_; rotate_left; (focus (intro w hSw; (try dsimp only at hSw); go_simp; (try with_reducible rfl))); (try simp only [Act.put, List.setIfInBounds_toArray, List.set_cons_zero, List.set_cons_succ]))
                  (refine wpAnyLT_take (i := 8) (oi := { dst := some 123, op := Op.load 4 (Operand.tmp 122), type := 4, pos := "law8.go:411", after := #[{ on := 7, ground := Ground.data }, { on := 2, ground := Ground.guard }], guard := some (2, false) }) (v := ?_) rfl (by kernel_rfl) (by kernel_rfl) (by kernel_rfl) (fun _ _ _ h => h) (Or.inl ⟨by rfl, ?_⟩) (by assumption) (by kernel_rfl) (by rfl) (by kernel_rfl) ?_; rotate_left; (focus (intro w hSw; (try dsimp only at hSw); go_simp; (try with_reducible rfl))); (try simp only [Act.put, List.setIfInBounds_toArray, List.set_cons_zero, List.set_cons_succ]))
                  (refine wpAnyLT_take (i := 9) (oi := { dst := some 124, op := Op.unOp UnOp.not 4 (Operand.tmp 123), type := 4, pos := "law8.go:411", after := #[{ on := 8, ground := Ground.data }, { on := 2, ground := Ground.guard }], guard := some (2, false) }) (v := ?_) rfl (by kernel_rfl) (by kernel_rfl) (by kernel_rfl) (fun _ _ _ h => h) (Or.inl ⟨by rfl, ?_⟩) (by assumption) (by kernel_rfl) (by rfl) (by kernel_rfl) ?_; rotate_left; (focus (intro w hSw; (try dsimp only at hSw); go_simp; (try with_reducible rfl))); (try simp only [Act.put, List.setIfInBounds_toArray, List.set_cons_zero, List.set_cons_succ]))
                  (refine wpAnyLT_take (i := 10) (oi := { dst := some 125, op := Op.pick (Operand.tmp 117) (Operand.const (Value.bool true)) (Operand.tmp 124), type := 4, pos := "law8.go:411", after := #[{ on := 2, ground := Ground.data }, { on := 9, ground := Ground.data }], guard := none }) (v := ?_) rfl (by kernel_rfl) (by kernel_rfl) (by kernel_rfl) (fun _ _ _ h => h) (Or.inl ⟨by rfl, ?_⟩) (by assumption) (by kernel_rfl) (by rfl) (by kernel_rfl) ?_; rotate_left; (focus (intro w hSw; (try dsimp only at hSw); go_simp; (try with_reducible rfl))); (try simp only [Act.put, List.setIfInBounds_toArray, List.set_cons_zero, List.set_cons_succ]))
                  (refine wpAnyLT_take (i := 11) (oi := { dst := some 126, op := Op.move (Operand.tmp 125), type := 4, pos := "law8.go:411", after := #[{ on := 10, ground := Ground.data }, { on := 2, ground := Ground.chain }], guard := none }) (v := ?_) rfl (by kernel_rfl) (by kernel_rfl) (by kernel_rfl) (fun _ _ _ h => h) (Or.inl ⟨by rfl, ?_⟩) (by assumption) (by kernel_rfl) (by rfl) (by kernel_rfl) ?_; rotate_left; (focus (intro w hSw; (try dsimp only at hSw); go_simp; (try with_reducible rfl))); (try simp only [Act.put, List.setIfInBounds_toArray, List.set_cons_zero, List.set_cons_succ]))
                  (refine wpAnyLT_take (i := 12) (oi := { dst := some 127, op := Op.fieldAddr 29 (Operand.tmp 11) 3, type := 0, pos := "law8.go:411", after := #[{ on := 11, ground := Ground.guard }], guard := some (11, false) }) (v := ?_) rfl (by kernel_rfl) (by kernel_rfl) (by kernel_rfl) (fun _ _ _ h => h) (Or.inl ⟨by rfl, ?_⟩) (by assumption) (by kernel_rfl) (by rfl) (by kernel_rfl) ?_; rotate_left; (focus (intro w hSw; (try dsimp only at hSw); go_simp; (try with_reducible rfl))); (try simp only [Act.put, List.setIfInBounds_toArray, List.set_cons_zero, List.set_cons_succ]))
                  (refine wpAnyLT_take (i := 13) (oi := { dst := some 128, op := Op.load 24 (Operand.tmp 127), type := 24, pos := "law8.go:411", after := #[{ on := 12, ground := Ground.data }, { on := 11, ground := Ground.guard }], guard := some (11, false) }) (v := ?_) rfl (by kernel_rfl) (by kernel_rfl) (by kernel_rfl) (fun _ _ _ h => h) (Or.inl ⟨by rfl, ?_⟩) (by assumption) (by kernel_rfl) (by rfl) (by kernel_rfl) ?_; rotate_left; (focus (intro w hSw; (try dsimp only at hSw); go_simp; (try with_reducible rfl))); (try simp only [Act.put, List.setIfInBounds_toArray, List.set_cons_zero, List.set_cons_succ]))
                  (refine wpAnyLT_take (i := 14) (oi := { dst := some 129, op := Op.fieldAddr 39 (Operand.tmp 13) 2, type := 0, pos := "law8.go:411", after := #[{ on := 11, ground := Ground.guard }], guard := some (11, false) }) (v := ?_) rfl (by kernel_rfl) (by kernel_rfl) (by kernel_rfl) (fun _ _ _ h => h) (Or.inl ⟨by rfl, ?_⟩) (by assumption) (by kernel_rfl) (by rfl) (by kernel_rfl) ?_; rotate_left; (focus (intro w hSw; (try dsimp only at hSw); go_simp; (try with_reducible rfl))); (try simp only [Act.put, List.setIfInBounds_toArray, List.set_cons_zero, List.set_cons_succ]))
                  (refine wpAnyLT_take (i := 15) (oi := { dst := some 130, op := Op.load 3 (Operand.tmp 129), type := 3, pos := "law8.go:411", after := #[{ on := 14, ground := Ground.data }, { on := 11, ground := Ground.guard }], guard := some (11, false) }) (v := ?_) rfl (by kernel_rfl) (by kernel_rfl) (by kernel_rfl) (fun _ _ _ h => h) (Or.inl ⟨by rfl, ?_⟩) (by assumption) (by kernel_rfl) (by rfl) (by kernel_rfl) ?_; rotate_left; (focus (intro w hSw; (try dsimp only at hSw); go_simp; (try with_reducible rfl))); (try simp only [Act.put, List.setIfInBounds_toArray, List.set_cons_zero, List.set_cons_succ]))
                  (refine wpAnyLT_take (i := 16) (oi := { dst := some 131, op := Op.indexAddr 24 (Operand.tmp 128) (Operand.tmp 130), type := 0, pos := "law8.go:411", after := #[{ on := 13, ground := Ground.data }, { on := 15, ground := Ground.data }, { on := 11, ground := Ground.guard }], guard := some (11, false) }) (v := ?_) rfl (by kernel_rfl) (by kernel_rfl) (by kernel_rfl) (fun _ _ _ h => h) (Or.inl ⟨by rfl, ?_⟩) (by assumption) (by kernel_rfl) (by rfl) (by kernel_rfl) ?_; rotate_left; (focus (intro w hSw; (try dsimp only at hSw); go_simp; (try with_reducible rfl))); (try simp only [Act.put, List.setIfInBounds_toArray, List.set_cons_zero, List.set_cons_succ]))
                  (refine wpAnyLT_take (i := 17) (oi := { dst := some 132, op := Op.load 4 (Operand.tmp 131), type := 4, pos := "law8.go:411", after := #[{ on := 16, ground := Ground.data }, { on := 11, ground := Ground.guard }], guard := some (11, false) }) (v := ?_) rfl (by kernel_rfl) (by kernel_rfl) (by kernel_rfl) (fun _ _ _ h => h) (Or.inl ⟨by rfl, ?_⟩) (by assumption) (by kernel_rfl) (by rfl) (by kernel_rfl) ?_; rotate_left; (focus (intro w hSw; (try dsimp only at hSw); go_simp; (try with_reducible rfl))); (try simp only [Act.put, List.setIfInBounds_toArray, List.set_cons_zero, List.set_cons_succ]))
                  (refine wpAnyLT_take (i := 18) (oi := { dst := some 133, op := Op.unOp UnOp.not 4 (Operand.tmp 132), type := 4, pos := "law8.go:411", after := #[{ on := 17, ground := Ground.data }, { on := 11, ground := Ground.guard }], guard := some (11, false) }) (v := ?_) rfl (by kernel_rfl) (by kernel_rfl) (by kernel_rfl) (fun _ _ _ h => h) (Or.inl ⟨by rfl, ?_⟩) (by assumption) (by kernel_rfl) (by rfl) (by kernel_rfl) ?_; rotate_left; (focus (intro w hSw; (try dsimp only at hSw); go_simp; (try with_reducible rfl))); (try simp only [Act.put, List.setIfInBounds_toArray, List.set_cons_zero, List.set_cons_succ]))
                  (refine wpAnyLT_take (i := 19) (oi := { dst := some 134, op := Op.pick (Operand.tmp 126) (Operand.const (Value.bool true)) (Operand.tmp 133), type := 4, pos := "law8.go:411", after := #[{ on := 11, ground := Ground.data }, { on := 18, ground := Ground.data }], guard := none }) (v := ?_) rfl (by kernel_rfl) (by kernel_rfl) (by kernel_rfl) (fun _ _ _ h => h) (Or.inl ⟨by rfl, ?_⟩) (by assumption) (by kernel_rfl) (by rfl) (by kernel_rfl) ?_; rotate_left; (focus (intro w hSw; (try dsimp only at hSw); go_simp; (try with_reducible rfl))); (try simp only [Act.put, List.setIfInBounds_toArray, List.set_cons_zero, List.set_cons_succ]))
                  (refine wpAnyLT_take (i := 20) (oi := { dst := some 135, op := Op.move (Operand.tmp 134), type := 4, pos := "law8.go:411", after := #[{ on := 19, ground := Ground.data }, { on := 11, ground := Ground.chain }], guard := none }) (v := ?_) rfl (by kernel_rfl) (by kernel_rfl) (by kernel_rfl) (fun _ _ _ h => h) (Or.inl ⟨by rfl, ?_⟩) (by assumption) (by kernel_rfl) (by rfl) (by kernel_rfl) ?_; rotate_left; (focus (intro w hSw; (try dsimp only at hSw); go_simp; (try with_reducible rfl))); (try simp only [Act.put, List.setIfInBounds_toArray, List.set_cons_zero, List.set_cons_succ]))
                  (refine wpAnyLT_take (i := 21) (oi := { dst := some 136, op := Op.load 44 (Operand.tmp 14), type := 44, pos := "law8.go:411", after := #[{ on := 20, ground := Ground.guard }], guard := some (20, false) }) (v := ?_) rfl (by kernel_rfl) (by kernel_rfl) (by kernel_rfl) (fun _ _ _ h => h) (Or.inl ⟨by rfl, ?_⟩) (by assumption) (by kernel_rfl) (by rfl) (by kernel_rfl) ?_; rotate_left; (focus (intro w hSw; (try dsimp only at hSw); go_simp; (try with_reducible rfl))); (try simp only [Act.put, List.setIfInBounds_toArray, List.set_cons_zero, List.set_cons_succ]))
                  (refine wpAnyLT_take (i := 22) (oi := { dst := some 137, op := Op.fieldAddr 29 (Operand.tmp 11) 4, type := 0, pos := "law8.go:411", after := #[{ on := 20, ground := Ground.guard }], guard := some (20, false) }) (v := ?_) rfl (by kernel_rfl) (by kernel_rfl) (by kernel_rfl) (fun _ _ _ h => h) (Or.inl ⟨by rfl, ?_⟩) (by assumption) (by kernel_rfl) (by rfl) (by kernel_rfl) ?_; rotate_left; (focus (intro w hSw; (try dsimp only at hSw); go_simp; (try with_reducible rfl))); (try simp only [Act.put, List.setIfInBounds_toArray, List.set_cons_zero, List.set_cons_succ]))
                  (refine wpAnyLT_take (i := 23) (oi := { dst := some 138, op := Op.load 22 (Operand.tmp 137), type := 22, pos := "law8.go:411", after := #[{ on := 22, ground := Ground.data }, { on := 20, ground := Ground.guard }], guard := some (20, false) }) (v := ?_) rfl (by kernel_rfl) (by kernel_rfl) (by kernel_rfl) (fun _ _ _ h => h) (Or.inl ⟨by rfl, ?_⟩) (by assumption) (by kernel_rfl) (by rfl) (by kernel_rfl) ?_; rotate_left; (focus (intro w hSw; (try dsimp only at hSw); go_simp; (try with_reducible rfl))); (try simp only [Act.put, List.setIfInBounds_toArray, List.set_cons_zero, List.set_cons_succ]))
                  (refine wpAnyLT_take (i := 24) (oi := { dst := some 139, op := Op.move (Operand.tmp 12), type := 3, pos := "law8.go:411", after := #[{ on := 20, ground := Ground.guard }], guard := some (20, false) }) (v := ?_) rfl (by kernel_rfl) (by kernel_rfl) (by kernel_rfl) (fun _ _ _ h => h) (Or.inl ⟨by rfl, ?_⟩) (by assumption) (by kernel_rfl) (by rfl) (by kernel_rfl) ?_; rotate_left; (focus (intro w hSw; (try dsimp only at hSw); go_simp; (try with_reducible rfl))); (try simp only [Act.put, List.setIfInBounds_toArray, List.set_cons_zero, List.set_cons_succ]))
                  (refine wpAnyLT_take (i := 25) (oi := { dst := some 140, op := Op.indexAddr 22 (Operand.tmp 138) (Operand.tmp 139), type := 0, pos := "law8.go:411", after := #[{ on := 23, ground := Ground.data }, { on := 24, ground := Ground.data }, { on := 20, ground := Ground.guard }], guard := some (20, false) }) (v := ?_) rfl (by kernel_rfl) (by kernel_rfl) (by kernel_rfl) (fun _ _ _ h => h) (Or.inl ⟨by rfl, ?_⟩) (by assumption) (by kernel_rfl) (by rfl) (by kernel_rfl) ?_; rotate_left; (focus (intro w hSw; (try dsimp only at hSw); go_simp; (try with_reducible rfl))); (try simp only [Act.put, List.setIfInBounds_toArray, List.set_cons_zero, List.set_cons_succ]))
                  (refine wpAnyLT_take (i := 26) (oi := { dst := some 141, op := Op.load 44 (Operand.tmp 140), type := 44, pos := "law8.go:411", after := #[{ on := 25, ground := Ground.data }, { on := 20, ground := Ground.guard }], guard := some (20, false) }) (v := ?_) rfl (by kernel_rfl) (by kernel_rfl) (by kernel_rfl) (fun _ _ _ h => h) (Or.inl ⟨by rfl, ?_⟩) (by assumption) (by kernel_rfl) (by rfl) (by kernel_rfl) ?_; rotate_left; (focus (intro w hSw; (try dsimp only at hSw); go_simp; (try with_reducible rfl))); (try simp only [Act.put, List.setIfInBounds_toArray, List.set_cons_zero, List.set_cons_succ]))
                  have SM := Lib.hid (same_any q yk wv (hQA.all hb1) (hYK.all hb1))
                  rw [HYE.out] at SM
                  (refine wpAnyL_ready (rs := [27]) (by kernel_rfl) (by simp) ?_; refine List.forall_mem_cons.2 ⟨stepL (o := { dst := some 142, op := Op.call { callee := Callee.value (Operand.func 12), args := #[Operand.tmp 136, Operand.tmp 141], argTypes := #[44, 44] }, type := 4, pos := "law8.go:411", after := #[{ on := 21, ground := Ground.data }, { on := 26, ground := Ground.data }, { on := 20, ground := Ground.chain }, { on := 20, ground := Ground.guard }], guard := some (20, false) }) rfl (fun K hK => ?_), fun _ h => by cases h⟩; (try go_simp); (go_at_call 12; refine SM.out.mono ?_; rintro e w2 ⟨rfl, hb2'⟩; have hb2 := hb1.trans (hb2'.mono hb1.size)); go_wp2_with fail; refine hK.out _ _ (hS.out _ hb2) (fun hHeld => ?_); (clear hK K; (try simp only [Act.put, List.setIfInBounds_toArray, List.set_cons_zero, List.set_cons_succ])))
                  (refine wpAnyLT_take (i := 28) (oi := { dst := some 143, op := Op.unOp UnOp.not 4 (Operand.tmp 142), type := 4, pos := "law8.go:411", after := #[{ on := 27, ground := Ground.data }, { on := 20, ground := Ground.guard }], guard := some (20, false) }) (v := ?_) rfl (by kernel_rfl) (by kernel_rfl) (by kernel_rfl) (fun _ _ _ h => h) (Or.inl ⟨by rfl, ?_⟩) (by assumption) (by kernel_rfl) (by rfl) (by kernel_rfl) ?_; rotate_left; (focus (intro w hSw; (try dsimp only at hSw); go_simp; (try with_reducible rfl))); (try simp only [Act.put, List.setIfInBounds_toArray, List.set_cons_zero, List.set_cons_succ]))
                  (refine wpAnyLT_take (i := 29) (oi := { dst := some 144, op := Op.pick (Operand.tmp 135) (Operand.const (Value.bool true)) (Operand.tmp 143), type := 4, pos := "law8.go:411", after := #[{ on := 20, ground := Ground.data }, { on := 28, ground := Ground.data }], guard := none }) (v := ?_) rfl (by kernel_rfl) (by kernel_rfl) (by kernel_rfl) (fun _ _ _ h => h) (Or.inl ⟨by rfl, ?_⟩) (by assumption) (by kernel_rfl) (by rfl) (by kernel_rfl) ?_; rotate_left; (focus (intro w hSw; (try dsimp only at hSw); go_simp; (try with_reducible rfl))); (try simp only [Act.put, List.setIfInBounds_toArray, List.set_cons_zero, List.set_cons_succ]))
                  refine wpAnyL_done (by kernel_rfl) ?_ _
                  have hbn := hbc.trans (hb2.mono hbc.size)
                  clear SM hHeld hS
                  go_wp2
                  go_roundw
                  case rel => exact ⟨k + 1, by omega, by go_num, hbn⟩
                  case measure => simp [intOf]; omega
          · obtain rfl : k = l.length := by omega
            have hBn := hB6.trans (hb.mono hB6.size)
            have hlp : 0 < l.length := by have a := plan_pos HF2.out.pl; rw [HPL.out] at a; exact a
            obtain ⟨m, hm⟩ : ∃ m, l.length = m + 1 := ⟨l.length - 1, by omega⟩
            have hsub : IntKind.i64.wrap ((l.length : Int) - 1) = (m : Int) := by rw [IntKind.wrap_i64]; omega
            have hm1 : m < f'.dn.length := by have a := HDL.out; omega
            have hm2 : (m : Int) < (f'.dn.length : Int) := by omega
            obtain ⟨d, hd⟩ : ∃ d, f'.dn[m]? = some d := ⟨_, List.getElem?_eq_getElem hm1⟩
            have hgd : f'.er.dn.getD (f'.er.pl.length - 1) false = d := by
              rw [HPL.out, show l.length - 1 = m by omega]; exact getD_of _ hd
            clear hm
            have OC := Lib.hid (outcome_any f' wr hO.at_)
            (have q0 := (kF).cell 0; have q1 := (kF).cell 1; have q2 := (kF).cell 2; have q3 := (kF).cell 3; have q4 := (kF).cell 4; have q5 := (kF).cell 5; have q6 := (kF).cell 6; have q7 := (kF).cell 7)
            cases d with
            | false =>
              have e9 : outP f'.er = (.nil, 11) := by unfold outP; rw [if_neg (fun hn => hn HF2.out.ck), if_pos hgd]
              rw [e9] at OC
              clear e9 hgd
              go_wp2_with fail
              refine OC.out.mono ?_
              rintro e w8 ⟨po, rfl, oo, eo, hb8⟩
              have hB8 := hBn.trans (hb8.mono hBn.size)
              clear q0 q1 q2 q3 q4 q5 q6 q7 OC
              go_upto_region 24 with (fail)
              have hsx : Below w8.heap.size w8 (w8.alloc (.cells #[.slice po.fa po.frs.length po.fc, .slice po.da po.dfs.length po.dc] 44)) := by (repeat' (first | exact Below.refl _ _ | assumption | refine Below.setCell ?_ (by first | omega | exact Below.size (by assumption) | (simp; done) | (simp; omega)) _ | refine Below.alloc ?_ (by first | omega | exact Below.size (by assumption) | (simp; done) | (simp; omega)) _ | refine Below.drew ?_ | refine below_drewN ?_ _))
              have hO9 := (hO.all hb8).all hsx
              have kF9 := (kF.all hb8).all hsx
              have hBx := hB8.trans (hsx.mono hB8.size)
              obtain ⟨w9, hw9⟩ : ∃ y, y = w8.alloc (.cells #[.slice po.fa po.frs.length po.fc, .slice po.da po.dfs.length po.dc] 44) := ⟨_, rfl⟩
              rw [← hw9] at hO9 kF9 hBx ⊢
              clear hw9 hsx hB8
              obtain ⟨bn, on, ead, bln, hcn⟩ := hO9.at_.dn.2 (by show 0 < f'.dn.length; omega)
              have cd := hcn m (.bool false) (by simp only [boolsV, List.getElem?_map, hd]; rfl)
              rw [ead] at kF9
              have q3 := kF9.cell 3
              clear hcn hd ead
              go_wp2
              go_ret
              exact ⟨rfl, hBx⟩
            | true =>
              obtain ⟨_, _, _, t, _, eT, eF⟩ := make_form HL.out
              obtain ⟨he1, he2⟩ := honest_end HF2.out HH2.out (t := t) (by rw [HPS.out]; simp only [List.length_map]; omega) (by rw [HPL.out]; exact eF) hgd
              have e9 : outP f'.er = (joinL (ps.map PtM.er), 0) := by
                unfold outP
                rw [if_neg (fun hn => hn HF2.out.ck), if_neg (by rw [hgd]; simp), he1, HPS.out]
              rw [HPS.out] at he2
              rw [e9] at OC
              clear e9 hgd eT eF he1
              go_wp2_with fail
              refine OC.out.mono ?_
              rintro e w8 ⟨po, rfl, oo, eo, hb8⟩
              dsimp only at eo ⊢
              have hB8 := hBn.trans (hb8.mono hBn.size)
              have hp8 := hp7.keep hb8 hb8.size
              clear q0 q1 q2 q3 q4 q5 q6 q7 OC hd
              go_upto_region 26 with (fail)
              have hsx : Below w8.heap.size w8 (w8.alloc (.cells #[.slice po.fa po.frs.length po.fc, .slice po.da po.dfs.length po.dc] 44)) := by (repeat' (first | exact Below.refl _ _ | assumption | refine Below.setCell ?_ (by first | omega | exact Below.size (by assumption) | (simp; done) | (simp; omega)) _ | refine Below.alloc ?_ (by first | omega | exact Below.size (by assumption) | (simp; done) | (simp; omega)) _ | refine Below.drew ?_ | refine below_drewN ?_ _))
              have kO := Blk.new w8 44 #[.slice po.fa po.frs.length po.fc, .slice po.da po.dfs.length po.dc]
              have oo9 := (oo.mono (Nat.zero_le _)).alloc (.cells #[.slice po.fa po.frs.length po.fc, .slice po.da po.dfs.length po.dc] 44)
              replace hB8 := hB8.trans (hsx.mono hB8.size)
              replace hp8 := hp8.keep hsx hsx.size
              obtain ⟨gO, hgO⟩ : ∃ x, x = w8.heap.size := ⟨_, rfl⟩
              obtain ⟨w9, hw9⟩ : ∃ y, y = w8.alloc (.cells #[.slice po.fa po.frs.length po.fc, .slice po.da po.dfs.length po.dc] 44) := ⟨_, rfl⟩
              rw [← hgO] at kO ⊢
              rw [← hw9] at kO oo9 hB8 hp8 ⊢
              clear hw9 hgO hsx
              have AL := Lib.hid (all_any (some ⟨bA, oA, none⟩) c ps w9 hp8 hpm)
              rw [he2] at AL
              go_wp2_with fail
              refine AL.out.mono ?_
              rintro e w10 ⟨pq, rfl, oq, eq, hb10⟩
              dsimp only at eq ⊢
              have HYE : Hid (decide (po.er = pq.er) = true) := decide_eq_true (eo.trans eq.symm)
              replace hB8 := hB8.trans (hb10.mono hB8.size)
              replace kO := kO.all hb10
              have hPO := oo9.at_.all hb10
              go_upto_region 27 with (fail)
              have hsx : Below w10.heap.size w10 (w10.alloc (.cells #[.slice pq.fa pq.frs.length pq.fc, .slice pq.da pq.dfs.length pq.dc] 44)) := by (repeat' (first | exact Below.refl _ _ | assumption | refine Below.setCell ?_ (by first | omega | exact Below.size (by assumption) | (simp; done) | (simp; omega)) _ | refine Below.alloc ?_ (by first | omega | exact Below.size (by assumption) | (simp; done) | (simp; omega)) _ | refine Below.drew ?_ | refine below_drewN ?_ _))
              have kQ := Blk.new w10 44 #[.slice pq.fa pq.frs.length pq.fc, .slice pq.da pq.dfs.length pq.dc]
              have oq9 := ((oq.mono (Nat.zero_le _)).alloc (.cells #[.slice pq.fa pq.frs.length pq.fc, .slice pq.da pq.dfs.length pq.dc] 44)).at_
              replace hB8 := hB8.trans (hsx.mono hB8.size)
              replace kO := kO.all hsx
              replace hPO := hPO.all hsx
              obtain ⟨gQ, hgQ⟩ : ∃ x, x = w10.heap.size := ⟨_, rfl⟩
              obtain ⟨w11, hw11⟩ : ∃ y, y = w10.alloc (.cells #[.slice pq.fa pq.frs.length pq.fc, .slice pq.da pq.dfs.length pq.dc] 44) := ⟨_, rfl⟩
              rw [← hgQ] at kQ ⊢
              rw [← hw11] at kO kQ oq9 hPO hB8 ⊢
              clear hw11 hgQ hsx
              have SM := Lib.hid (same_any po pq w11 hPO oq9)
              rw [HYE.out] at SM
              have o0 := kO.cell 0
              have o1 := kO.cell 1
              have p0 := kQ.cell 0
              have p1 := kQ.cell 1
              go_wp2_with fail
              refine SM.out.mono ?_
              rintro e w12 ⟨rfl, hb12⟩
              have hBx := hB8.trans (hb12.mono hB8.size)
              go_wp2
              go_ret
              exact ⟨rfl, hBx⟩
    · have t1 : (n != 0) = true := by simpa using hn
      have hB4 := hB3.alloc hB3.size (.cells #[.slice f.pa f.ps.length f.pc, .slice f.la f.pl.length f.lc, .int .i64 f.now, .slice f.da f.dn.length f.dc, .slice f.ha f.hv.length f.hc, .slice f.ga f.gs.length f.gc, .slice f.wa f.wk.length f.wc, .slice f.na f.nt.length f.nc] 29)
      clear hn h33 hp3 rl3
      go_wp2
      go_ret
      exact ⟨rfl, hB4⟩
  · have t1 : (x != 0) = true := by simpa using hx
    clear hx rl2 h32 hp2
    go_wp2_with fail
    refine (farmed_any w2).mono ?_
    rintro e w3 ⟨rfl, hb3⟩
    go_wp2
    go_ret
    exact ⟨rfl, hB2.trans (hb3.mono hB2.size)⟩
end Go.Proofs.Ytkfmkemjoddinaa
