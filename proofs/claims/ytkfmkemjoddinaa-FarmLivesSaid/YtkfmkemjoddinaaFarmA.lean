/- ropewalklaw.farmed: the call returns true. -/
import Derived.Test.YtkfmkemjoddinaaFarmAp
import Derived.Test.YtkfmkemjoddinaaFarmZ
import Derived.Test.YtkfmkemjoddinaaFarmV
import Derived.Test.YtkfmkemjoddinaaFarmY
import Derived.Test.YtkfmkemjoddinaaSameW
import Derived.Test.YtkfmkemjoddinaaHdB
set_option linter.all false
namespace Go.Proofs.Ytkfmkemjoddinaa
open Go.RowKit
set_option maxRecDepth 100000

theorem Try.infoHap : (Try.prog.info? 31).map (fun i => (i.zero, i.size, i.bytes)) = some (some (.agg #[.int .i64 0, .int .i64 0, .int .i64 0]), 3, 24) := by kernel_rfl
theorem haps_one (l : List Hap) : ∀ u ∈ hapsV l, u.oneCell' = true := by
  intro u hu
  obtain ⟨p, _, hp⟩ := List.mem_flatMap.1 hu
  simp only [Hap.cells, List.mem_cons, List.not_mem_nil, or_false] at hp
  rcases hp with rfl | rfl | rfl <;> rfl
def rnds (k : Nat) : List Hap := (List.replicate k roundH).flatten
theorem rnds_len (k : Nat) : (rnds k).length = 4 * k := by unfold rnds; simp [roundH]; omega
theorem rnds_succ (k : Nat) : rnds (k + 1) = rnds k ++ roundH := by unfold rnds; rw [List.replicate_succ', List.flatten_append]; simp
theorem FrM.Own.haps {w w' : World} {base base' size' n' : Nat} {f : FrM} {v' : Value} {xs' : List Value} (h : f.Own w base) (hm : w.ownsRow base' 31 size' v' n' xs') (hg : w.grownBy w' v'.ownBlock) : f.Own w' base :=
  ⟨own_kept_ty h.ps hm (by decide) hg, fun p hp => (h.pse p hp).kept_ty hm (by decide) (by decide) (by decide) (by decide) hg, own_kept_ty h.pl hm (by decide) hg, own_kept_ty h.dn hm (by decide) hg,
    own_kept_ty h.hv hm (by decide) hg, fun p hp => (h.hve p hp).kept_ty hm (by decide) (by decide) (by decide) (by decide) hg, own_kept_ty h.gs hm (by decide) hg, own_kept_ty h.wk hm (by decide) hg, own_kept_ty h.nt hm (by decide) hg, fun m hm' => (h.nte m hm').kept_ty hm (by decide) (by decide) (by decide) (by decide) hg, h.apart⟩
theorem PtM.Own.put8 {w : World} {base g : Nat} {p : PtM} (h : p.Own w base) {cs : Array Value} (hb : Blk w g 29 cs) (f : FrM) : p.Own ((((((((w.setCell ⟨g, 0, none⟩ (.slice f.pa f.ps.length f.pc)).setCell ⟨g, 1, none⟩ (.slice f.la f.pl.length f.lc)).setCell ⟨g, 2, none⟩ (.int .i64 f.now)).setCell ⟨g, 3, none⟩ (.slice f.da f.dn.length f.dc)).setCell ⟨g, 4, none⟩ (.slice f.ha f.hv.length f.hc)).setCell ⟨g, 5, none⟩ (.slice f.ga f.gs.length f.gc)).setCell ⟨g, 6, none⟩ (.slice f.wa f.wk.length f.wc)).setCell ⟨g, 7, none⟩ (.slice f.na f.nt.length f.nc)) base :=
  ⟨own_far8 h.fr hb (by decide) f, own_far8 h.df hb (by decide) f, fun x hx => ⟨own_far8 (h.each x hx).by_ hb (by decide) f, own_far8 (h.each x hx).re hb (by decide) f⟩, h.apart⟩
theorem hapsV_append (l m : List Hap) : hapsV (l ++ m) = hapsV l ++ hapsV m := by unfold hapsV; rw [List.flatMap_append]
set_option maxHeartbeats 40000000 in
theorem farmed_any (w : World) : Calls Try.prog 8 #[] w fun e w' => e = .returned (.bool true) ∧ Below w.heap.size w w' := by
  go_enter Try.func8, Try.ntmps8
  go_wp2_with fail
  refine (two_any w).mono ?_
  rintro e w1 ⟨p1, p2, rfl, oa, ob, ea, eb, hb1⟩
  go_upto_region 2 with (fail)
  have hs := (Below.refl w1.heap.size w1).alloc (Nat.le_refl _) (.cells #[.slice (p1).fa (p1).frs.length (p1).fc, .slice (p1).da (p1).dfs.length (p1).dc] 44)
  have hs := hs.alloc (by simp) (.cells #[.slice (p2).fa (p2).frs.length (p2).fc, .slice (p2).da (p2).dfs.length (p2).dc] 44)
  have k1 := (Blk.new w1 44 #[.slice p1.fa p1.frs.length p1.fc, .slice p1.da p1.dfs.length p1.dc]).alloc (.cells #[.slice (p2).fa (p2).frs.length (p2).fc, .slice (p2).da (p2).dfs.length (p2).dc] 44)
  have k2 := Blk.new' (w1.alloc (.cells #[.slice (p1).fa (p1).frs.length (p1).fc, .slice (p1).da (p1).dfs.length (p1).dc] 44)) 44 #[.slice p2.fa p2.frs.length p2.fc, .slice p2.da p2.dfs.length p2.dc] (g := w1.heap.size + 1) (by simp)
  have a1 := oa.all hs
  have a2 := ob.all hs
  have hB := hb1.trans (hs.mono hb1.size)
  obtain ⟨W, hW⟩ : ∃ W', W' = (w1.alloc (.cells #[.slice (p1).fa (p1).frs.length (p1).fc, .slice (p1).da (p1).dfs.length (p1).dc] 44)).alloc (.cells #[.slice (p2).fa (p2).frs.length (p2).fc, .slice (p2).da (p2).dfs.length (p2).dc] 44) := ⟨_, rfl⟩
  obtain ⟨g2, hg2⟩ : ∃ g, g = w1.heap.size + 1 := ⟨_, rfl⟩
  obtain ⟨g1, hg1⟩ : ∃ g, g = w1.heap.size := ⟨_, rfl⟩
  rw [← hg2] at k2 ⊢
  rw [← hg1] at k1 ⊢
  rw [← hW] at k1 k2 a1 a2 hB ⊢
  clear hW hg1 hg2 hs hb1 oa ob
  have EA := Lib.hid ea
  have EB := Lib.hid eb
  clear ea eb
  have MK := Lib.hid (make_any 2 none 0 [] W Reads.none_ (by simp))
  rw [make_two] at MK
  go_wp2_with fail
  refine MK.out.mono ?_
  rintro e w2 ⟨v, rfl, ⟨Al, cl, rfl, hcl, rl⟩, hb2⟩
  dsimp only at rl hcl ⊢
  replace a1 := a1.all hb2
  replace a2 := a2.all hb2
  replace k1 := k1.all hb2
  replace k2 := k2.all hb2
  replace hB := hB.trans (hb2.mono hB.size)
  have q0 := k1.cell 0
  have q1 := k1.cell 1
  have q2 := k2.cell 0
  have q3 := k2.cell 1
  have y2 := hB.size
  clear MK hb2
  have kL := Blk.new w2 44 #[.slice p1.fa p1.frs.length p1.fc, .slice p1.da p1.dfs.length p1.dc, .slice p2.fa p2.frs.length p2.fc, .slice p2.da p2.dfs.length p2.dc]
  have hs : Below w2.heap.size w2 (w2.alloc (.cells #[.slice p1.fa p1.frs.length p1.fc, .slice p1.da p1.dfs.length p1.dc, .slice p2.fa p2.frs.length p2.fc, .slice p2.da p2.dfs.length p2.dc] 44)) := by (repeat' (first | exact Below.refl _ _ | assumption | refine Below.setCell ?_ (by first | omega | exact Below.size (by assumption) | (simp; done) | (simp; omega)) _ | refine Below.alloc ?_ (by first | omega | exact Below.size (by assumption) | (simp; done) | (simp; omega)) _ | refine Below.drew ?_ | refine below_drewN ?_ _))
  have NW := Lib.hid (new_any (some ⟨w2.heap.size, 0, none⟩) Al 2 cl [p1, p2] planL 1 (w2.alloc (.cells #[.slice p1.fa p1.frs.length p1.fc, .slice p1.da p1.dfs.length p1.dc, .slice p2.fa p2.frs.length p2.fc, .slice p2.da p2.dfs.length p2.dc] 44))
    ⟨kL.reads (size := 2) (n := 2) rfl, fun p hp => by
      simp only [List.mem_cons, List.not_mem_nil, or_false] at hp
      rcases hp with rfl | rfl
      · exact (a1.all hs).at_
      · exact (a2.all hs).at_⟩ (by simp) ((rl.below hs).more hs.size) (by simp [planL]))
  go_wp2_with fail
  refine NW.out.mono ?_
  rintro e w3 ⟨f1, rfl, hO1, hE1, hb3⟩
  have hnew : newP [twoA, twoB] planL 1 = (newF [twoA, twoB] planL 1, 0) := by
    unfold newP
    rw [if_neg (fun hn => hn fm_plan), if_neg (by omega), firstBad_parts.2 fm_ok, if_neg (by simp)]; rfl
  have hnl : newP (List.map PtM.er [p1, p2]) planL 1 = (newF [twoA, twoB] planL 1, 0) := by
    rw [← hnew]; simp only [List.map_cons, List.map_nil, EA.out, EB.out]
  rw [hnl] at hE1 ⊢
  dsimp only at hE1 ⊢
  have HE1 := Lib.hid hE1
  have hb3' := hs.trans (hb3.mono hs.size)
  replace a1 := a1.all hb3'
  replace a2 := a2.all hb3'
  replace k1 := k1.all hb3'
  replace k2 := k2.all hb3'
  replace hB := hB.trans (hb3'.mono hB.size)
  clear NW kL rl q0 q1 q2 q3 hs hb3 hb3' hnew hnl hE1
  have kF := Blk.new w3 29 #[.slice f1.pa f1.ps.length f1.pc, .slice f1.la f1.pl.length f1.lc, .int .i64 f1.now, .slice f1.da f1.dn.length f1.dc, .slice f1.ha f1.hv.length f1.hc, .slice f1.ga f1.gs.length f1.gc, .slice f1.wa f1.wk.length f1.wc, .slice f1.na f1.nt.length f1.nc]
  have k1o := k1.lt
  have k2o := k2.lt
  have y3 := hB.size
  have hs : Below w3.heap.size w3 (w3.alloc (.cells #[.slice f1.pa f1.ps.length f1.pc, .slice f1.la f1.pl.length f1.lc, .int .i64 f1.now, .slice f1.da f1.dn.length f1.dc, .slice f1.ha f1.hv.length f1.hc, .slice f1.ga f1.gs.length f1.gc, .slice f1.wa f1.wk.length f1.wc, .slice f1.na f1.nt.length f1.nc] 29)) := by (repeat' (first | exact Below.refl _ _ | assumption | refine Below.setCell ?_ (by first | omega | exact Below.size (by assumption) | (simp; done) | (simp; omega)) _ | refine Below.alloc ?_ (by first | omega | exact Below.size (by assumption) | (simp; done) | (simp; omega)) _ | refine Below.drew ?_ | refine below_drewN ?_ _))
  have hO2 := (hO1.mono (base' := w.heap.size) (by simp; omega)).all hs
  replace a1 := a1.all hs
  replace a2 := a2.all hs
  replace k1 := k1.all hs
  replace k2 := k2.all hs
  replace hB := hB.trans (hs.mono hB.size)
  go_upto_region 4 with (fail)
  obtain ⟨gF, hgF⟩ : ∃ g, g = w3.heap.size := ⟨_, rfl⟩
  obtain ⟨w4, hw4⟩ : ∃ y, y = w3.alloc (.cells #[.slice f1.pa f1.ps.length f1.pc, .slice f1.la f1.pl.length f1.lc, .int .i64 f1.now, .slice f1.da f1.dn.length f1.dc, .slice f1.ha f1.hv.length f1.hc, .slice f1.ga f1.gs.length f1.gc, .slice f1.wa f1.wk.length f1.wc, .slice f1.na f1.nt.length f1.nc] 29) := ⟨_, rfl⟩
  rw [← hgF] at kF ⊢
  rw [← hw4] at kF a1 a2 k1 k2 hB hO2 ⊢
  have hgFl : w.heap.size ≤ gF := by omega
  have hgF1 : g1 ≠ gF := by have := k1o; omega
  have hgF2 : g2 ≠ gF := by have := k2o; omega
  clear hw4 hgF hs hO1
  obtain ⟨i0, hi, hz0, hz1, hz2⟩ := info_parts Try.infoHap
  go_wp2
  go_loopw [30, 7] (fun i s wr => ∃ (k : Nat) (As : Option Addr) (cs : Nat), k ≤ 3 ∧ i = .int .i64 k ∧ s = .slice As (4 * k) cs ∧ wr.ownsRow w.heap.size 31 3 (.slice As (4 * k) cs) (4 * k) (hapsV (rnds k)) ∧
    Blk wr gF 29 #[.slice f1.pa f1.ps.length f1.pc, .slice f1.la f1.pl.length f1.lc, .int .i64 f1.now, .slice f1.da f1.dn.length f1.dc, .slice f1.ha f1.hv.length f1.hc, .slice f1.ga f1.gs.length f1.gc, .slice f1.wa f1.wk.length f1.wc, .slice f1.na f1.nt.length f1.nc] ∧ f1.Own wr w.heap.size ∧ p1.Own wr w.heap.size ∧ p2.Own wr w.heap.size ∧ Blk wr g1 44 #[.slice p1.fa p1.frs.length p1.fc, .slice p1.da p1.dfs.length p1.dc] ∧ Blk wr g2 44 #[.slice p2.fa p2.frs.length p2.fc, .slice p2.da p2.dfs.length p2.dc] ∧ Below w.heap.size w wr) (fun i _ _ => 3 - (intOf i).toNat)
  case atStart => exact ⟨0, none, 0, by omega, rfl, rfl, World.ownsRow_nil _ _ _ _, kF, hO2, a1, a2, k1, k2, hB⟩
  case round =>
    clear kF hO2 a1 a2 k1 k2 hB
    obtain ⟨k, As, cs, hk, rfl, rfl, oS, kF, hO, a1, a2, k1, k2, hBr⟩ := hrel
    by_cases hlt : k < 3
    · have hL : 4 * k + 4 = 4 * (k + 1) := by omega
      (go_wp2_with (at_builtin; refine wpList_append_own _ rfl (.tmp 32) (.tmp 37) 52 rfl w.heap.size 31 i0 (.agg #[.int .i64 0, .int .i64 0, .int .i64 0]) 3 24 Try.underlying52 hi hz0 hz1 hz2 rfl (by decide) _ _ _ rfl (oS.alloc (.cells #[.int .i64 1, .int .i64 0, .int .i64 0, .int .i64 3, .int .i64 0, .int .i64 0, .int .i64 2, .int .i64 0, .int .i64 0, .int .i64 3, .int .i64 0, .int .i64 0] 31)) ⟨_, 0, none⟩ 4 4 (hapsV roundH) rfl rfl ?c1 ?c2 ?c3 ?c4 ?c5 ?_; (case c1 => exact fun j u hu => cells_new j u hu); (case c2 => exact haps_one _); (case c3 => unfold maxLen; omega); (case c4 => omega); (case c5 => have := hBr.size; simp; omega); intro v' w9 hown9 hg9 _))
      obtain ⟨A9, c9, rfl, _, _⟩ := own_form hown9
      have oS1 := oS.alloc (.cells #[.int .i64 1, .int .i64 0, .int .i64 0, .int .i64 3, .int .i64 0, .int .i64 0, .int .i64 2, .int .i64 0, .int .i64 0, .int .i64 3, .int .i64 0, .int .i64 0] 31)
      have kF9 := (kF.alloc (.cells #[.int .i64 1, .int .i64 0, .int .i64 0, .int .i64 3, .int .i64 0, .int .i64 0, .int .i64 2, .int .i64 0, .int .i64 0, .int .i64 3, .int .i64 0, .int .i64 0] 31)).grown hg9 (own_blk_ne oS1 (kF.alloc _) (by decide)).symm
      have k19 := (k1.alloc (.cells #[.int .i64 1, .int .i64 0, .int .i64 0, .int .i64 3, .int .i64 0, .int .i64 0, .int .i64 2, .int .i64 0, .int .i64 0, .int .i64 3, .int .i64 0, .int .i64 0] 31)).grown hg9 (own_blk_ne oS1 (k1.alloc _) (by decide)).symm
      have k29 := (k2.alloc (.cells #[.int .i64 1, .int .i64 0, .int .i64 0, .int .i64 3, .int .i64 0, .int .i64 0, .int .i64 2, .int .i64 0, .int .i64 0, .int .i64 3, .int .i64 0, .int .i64 0] 31)).grown hg9 (own_blk_ne oS1 (k2.alloc _) (by decide)).symm
      have hO9 := (hO.alloc (.cells #[.int .i64 1, .int .i64 0, .int .i64 0, .int .i64 3, .int .i64 0, .int .i64 0, .int .i64 2, .int .i64 0, .int .i64 0, .int .i64 3, .int .i64 0, .int .i64 0] 31)).haps oS1 hg9
      have a19 := (a1.alloc (.cells #[.int .i64 1, .int .i64 0, .int .i64 0, .int .i64 3, .int .i64 0, .int .i64 0, .int .i64 2, .int .i64 0, .int .i64 0, .int .i64 3, .int .i64 0, .int .i64 0] 31)).kept_ty oS1 (by decide) (by decide) (by decide) (by decide) hg9
      have a29 := (a2.alloc (.cells #[.int .i64 1, .int .i64 0, .int .i64 0, .int .i64 3, .int .i64 0, .int .i64 0, .int .i64 2, .int .i64 0, .int .i64 0, .int .i64 3, .int .i64 0, .int .i64 0] 31)).kept_ty oS1 (by decide) (by decide) (by decide) (by decide) hg9
      have hB9 := (hBr.alloc hBr.size (.cells #[.int .i64 1, .int .i64 0, .int .i64 0, .int .i64 3, .int .i64 0, .int .i64 0, .int .i64 2, .int .i64 0, .int .i64 0, .int .i64 3, .int .i64 0, .int .i64 0] 31)).grown hg9 (by have := hBr.size; simp; omega) (fun x hx => (oS1.lt x hx).1)
      clear oS oS1 kF hO a1 a2 k1 k2 hBr hg9
      rw [hL] at hown9 ⊢
      rw [← hapsV_append, ← rnds_succ] at hown9
      go_roundw
      case rel => exact ⟨k + 1, A9, c9, by omega, by go_num, rfl, hown9, kF9, hO9, a19, a29, k19, k29, hB9⟩
      case measure => simp [intOf]; omega
    · obtain rfl : k = 3 := by omega
      clear hlt hk
      go_upto_region 9 with (fail)
      have hS : Hid (∀ w', Below wr.heap.size wr w' → (w'.cell? ⟨gF, 0, none⟩ = some (.slice f1.pa f1.ps.length f1.pc) ∧ w'.cell? ⟨gF, 1, none⟩ = some (.slice f1.la f1.pl.length f1.lc) ∧ w'.cell? ⟨gF, 2, none⟩ = some (.int .i64 f1.now) ∧ w'.cell? ⟨gF, 3, none⟩ = some (.slice f1.da f1.dn.length f1.dc) ∧ w'.cell? ⟨gF, 4, none⟩ = some (.slice f1.ha f1.hv.length f1.hc) ∧ w'.cell? ⟨gF, 5, none⟩ = some (.slice f1.ga f1.gs.length f1.gc) ∧ w'.cell? ⟨gF, 6, none⟩ = some (.slice f1.wa f1.wk.length f1.wc) ∧ w'.cell? ⟨gF, 7, none⟩ = some (.slice f1.na f1.nt.length f1.nc))) := fun w' h => ⟨(kF.all h).cell 0, (kF.all h).cell 1, (kF.all h).cell 2, (kF.all h).cell 3, (kF.all h).cell 4, (kF.all h).cell 5, (kF.all h).cell 6, (kF.all h).cell 7⟩
      have hb := (Below.refl wr.heap.size wr).drew
      refine wp_region_late (S := (fun w' => w'.cell? ⟨gF, 0, none⟩ = some (.slice f1.pa f1.ps.length f1.pc) ∧ w'.cell? ⟨gF, 1, none⟩ = some (.slice f1.la f1.pl.length f1.lc) ∧ w'.cell? ⟨gF, 2, none⟩ = some (.int .i64 f1.now) ∧ w'.cell? ⟨gF, 3, none⟩ = some (.slice f1.da f1.dn.length f1.dc) ∧ w'.cell? ⟨gF, 4, none⟩ = some (.slice f1.ha f1.hv.length f1.hc) ∧ w'.cell? ⟨gF, 5, none⟩ = some (.slice f1.ga f1.gs.length f1.gc) ∧ w'.cell? ⟨gF, 6, none⟩ = some (.slice f1.wa f1.wk.length f1.wc) ∧ w'.cell? ⟨gF, 7, none⟩ = some (.slice f1.na f1.nt.length f1.nc))) [7, 8, 9, 10, 11, 12] (by kernel_rfl) (hS.out _ hb) (fun hHeld => ?_)
      obtain ⟨wv, hwv⟩ : ∃ x, x = wr.drew := ⟨_, rfl⟩
      rw [← hwv] at hb hHeld ⊢
      clear hwv
      (refine wpAnyLT_take (i := 0) (oi := { dst := some 41, op := Op.load 29 (Operand.tmp 5), type := 29, pos := "law8.go:316", after := #[], guard := none }) (v := ?_) rfl (by kernel_rfl) (by kernel_rfl) (by kernel_rfl) (fun _ _ _ h => h) (Or.inl ⟨by rfl, ?_⟩) (by assumption) (by kernel_rfl) (by rfl) (by kernel_rfl) ?_; rotate_left; (focus (intro w hSw; (try dsimp only at hSw); go_simp; (try with_reducible rfl))); (try simp only [Act.put, List.setIfInBounds_toArray, List.set_cons_zero, List.set_cons_succ]))
      (refine wpAnyLT_take (i := 1) (oi := { dst := some 42, op := Op.move (Operand.tmp 7), type := 52, pos := "law8.go:316", after := #[], guard := none }) (v := ?_) rfl (by kernel_rfl) (by kernel_rfl) (by kernel_rfl) (fun _ _ _ h => h) (Or.inl ⟨by rfl, ?_⟩) (by assumption) (by kernel_rfl) (by rfl) (by kernel_rfl) ?_; rotate_left; (focus (intro w hSw; (try dsimp only at hSw); go_simp; (try with_reducible rfl))); (try simp only [Act.put, List.setIfInBounds_toArray, List.set_cons_zero, List.set_cons_succ]))
      (refine wpAnyLT_take (i := 2) (oi := { dst := some 43, op := Op.build 31 #[(0, Operand.const (Value.int IntKind.i64 1))], type := 31, pos := "law8.go:316", after := #[], guard := none }) (v := ?_) rfl (by kernel_rfl) (by kernel_rfl) (by kernel_rfl) (fun _ _ _ h => h) (Or.inl ⟨by rfl, ?_⟩) (by assumption) (by kernel_rfl) (by rfl) (by kernel_rfl) ?_; rotate_left; (focus (intro w hSw; (try dsimp only at hSw); go_simp; (try with_reducible rfl))); (try simp only [Act.put, List.setIfInBounds_toArray, List.set_cons_zero, List.set_cons_succ]))
      (refine wpAnyL_ready (rs := [3]) (by kernel_rfl) (by simp) ?_; refine List.forall_mem_cons.2 ⟨?_, fun _ h => by cases h⟩)
      (refine stepL (o := { dst := some 44, op := Op.buildSlice 52 1 #[(0, Operand.tmp 43)], type := 52, pos := "law8.go:316", after := #[{ on := 2, ground := Ground.data }], guard := none }) rfl (fun K hK => ?_); go_simp; refine hK.out _ _ (hS.out _ (hb.alloc hb.size _)) (fun hHeld => ?_); (clear hK K; (try simp only [Act.put, List.setIfInBounds_toArray, List.set_cons_zero, List.set_cons_succ])))
      have hB4 := hBr.trans ((hb.alloc hb.size (.cells #[.int .i64 1, .int .i64 0, .int .i64 0] 31)).mono hBr.size)
      have hb4 := hb.alloc hb.size (.cells #[.int .i64 1, .int .i64 0, .int .i64 0] 31)
      have kS := Blk.new wv 31 #[.int .i64 1, .int .i64 0, .int .i64 0]
      obtain ⟨gs, hgs⟩ : ∃ y, y = wv.heap.size := ⟨_, rfl⟩
      obtain ⟨wx, hwx⟩ : ∃ y, y = wv.alloc (.cells #[.int .i64 1, .int .i64 0, .int .i64 0] 31) := ⟨_, rfl⟩
      rw [← hgs] at kS ⊢
      rw [← hwx] at kS hB4 hb4 hHeld ⊢
      clear hwx hgs
      have rs : Reads wx wx.heap.size 3 (some ⟨gs, 0, none⟩) 1 (hapsV [⟨1, 0, 0⟩]) := kS.reads (size := 3) (n := 1) rfl
      have oS4 := own_all oS hb4
      have kF4 := kF.all hb4
      have kF5 : ∀ {w5 : World}, wx.grownBy w5 (Value.slice As (4 * 3) cs).ownBlock → Blk w5 gF 29 #[.slice f1.pa f1.ps.length f1.pc, .slice f1.la f1.pl.length f1.lc, .int .i64 f1.now, .slice f1.da f1.dn.length f1.dc, .slice f1.ha f1.hv.length f1.hc, .slice f1.ga f1.gs.length f1.gc, .slice f1.wa f1.wk.length f1.wc, .slice f1.na f1.nt.length f1.nc] := fun hg => kF4.grown hg (own_blk_ne oS4 kF4 (by decide)).symm
      (refine wpAnyL_ready (rs := [4]) (by kernel_rfl) (by simp) ?_; refine List.forall_mem_cons.2 ⟨?_, fun _ h => by cases h⟩)
      (refine stepL (o := { dst := some 45, op := Op.call { callee := Callee.builtin Builtin.append, args := #[Operand.tmp 42, Operand.tmp 44], argTypes := #[52, 52] }, type := 52, pos := "law8.go:316", after := #[{ on := 1, ground := Ground.data }, { on := 3, ground := Ground.data }], guard := none }) rfl (fun K hK => ?_); refine step_append_any _ rfl (.tmp 42) (.tmp 44) 52 rfl w.heap.size 31 i0 (.agg #[.int .i64 0, .int .i64 0, .int .i64 0]) 3 24 Try.underlying52 hi hz0 hz1 hz2 rfl (by decide) _ _ _ rfl oS4 _ (some ⟨gs, 0, none⟩) 1 1 (hapsV [⟨1, 0, 0⟩]) rfl rs (haps_one _) ?c2 ?c3 ?c4 ?_; (case c2 => unfold maxLen; omega); (case c3 => omega); (case c4 => exact hB4.size); intro v5 w5 ho5 hg5 _; refine hK.out _ _ ⟨(kF5 hg5).cell 0, (kF5 hg5).cell 1, (kF5 hg5).cell 2, (kF5 hg5).cell 3, (kF5 hg5).cell 4, (kF5 hg5).cell 5, (kF5 hg5).cell 6, (kF5 hg5).cell 7⟩ (fun hHeld => ?_); (clear hK K; (try simp only [Act.put, List.setIfInBounds_toArray, List.set_cons_zero, List.set_cons_succ])))
      obtain ⟨A5, c5, rfl, hc5, _⟩ := own_form ho5
      have k15 := (k1.all hb4).grown hg5 (own_blk_ne oS4 (k1.all hb4) (by decide)).symm
      have k25 := (k2.all hb4).grown hg5 (own_blk_ne oS4 (k2.all hb4) (by decide)).symm
      have kF6 := kF5 hg5
      have hO5 := (hO.all hb4).haps oS4 hg5
      have a15 := (a1.all hb4).kept_ty oS4 (by decide) (by decide) (by decide) (by decide) hg5
      have a25 := (a2.all hb4).kept_ty oS4 (by decide) (by decide) (by decide) (by decide) hg5
      have hB5 := hB4.grown hg5 hB4.size (fun x hx => (oS4.lt x hx).1)
      rw [← hapsV_append] at ho5
      obtain ⟨sc, hsc⟩ : ∃ sc, sc = rnds 3 ++ [⟨1, 0, 0⟩] := ⟨_, rfl⟩
      have hscl : sc.length = 13 := by rw [hsc, List.length_append, rnds_len]; rfl
      have hrd : Reads w5 w5.heap.size 3 A5 sc.length (hapsV sc) := by rw [hscl, hsc]; exact Reads.of_own ho5
      have RU := Lib.hid (run_any f1 A5 c5 sc w5 hO5.at_ hrd (by rw [hscl]; omega))
      obtain ⟨F, S, hrun, hS13, hS11, hS12, hFF, hout⟩ := farmed_fact
      have hP : runP f1.er sc = (F, S, 0) := by
        have e1 : f1.er = newF [twoA, twoB] planL 1 := HE1.out
        rw [runP_ok (by rw [e1]; exact (new_fine fm_plan (by omega) (by omega) fm_ok).ck) (by rw [hscl]; omega), e1]
        have e2 : sc = roundH ++ (roundH ++ (roundH ++ [⟨1, 0, 0⟩])) := by rw [hsc]; rfl
        rw [e2, hrun]
      rw [hP, hscl] at RU
      clear hP hscl hrd hsc hrun ho5 hg5 kF5 oS4 kF4 rs kS hb4 hB4 oS kF hO a1 a2 k1 k2 hBr hb hS
      (refine wpAnyL_ready (rs := [5]) (by kernel_rfl) (by simp) ?_; refine List.forall_mem_cons.2 ⟨?_, fun _ h => by cases h⟩)
      refine stepL (o := { dst := some 46, op := Op.call { callee := Callee.value (Operand.func 17), args := #[Operand.tmp 41, Operand.tmp 45], argTypes := #[29, 52] }, type := 57, pos := "law8.go:316", after := #[{ on := 0, ground := Ground.data }, { on := 4, ground := Ground.data }, { on := 4, ground := Ground.chain }], guard := none }) rfl (fun K hK => ?_)
      (try go_simp)
      (go_at_call 17; refine RU.out.mono ?_; rintro e w6 ⟨f6, v6, rfl, hO6, hE6, hrow6, hb6⟩)
      dsimp only at hE6 hrow6 ⊢
      have kF7 := kF6.all hb6
      go_wp2_with fail
      refine hK.out _ _ ⟨kF7.cell 0, kF7.cell 1, kF7.cell 2, kF7.cell 3, kF7.cell 4, kF7.cell 5, kF7.cell 6, kF7.cell 7⟩ (fun hHeld => ?_)
      (clear hK K; (try simp only [Act.put, List.setIfInBounds_toArray, List.set_cons_zero, List.set_cons_succ]))
      (refine wpAnyLT_take (i := 6) (oi := { dst := some 40, op := Op.move (Operand.tmp 46), type := 57, pos := "law8.go:316", after := #[{ on := 5, ground := Ground.data }], guard := none }) (v := ?_) rfl (by kernel_rfl) (by kernel_rfl) (by kernel_rfl) (fun _ _ _ h => h) (Or.inl ⟨by rfl, ?_⟩) (by assumption) (by kernel_rfl) (by rfl) (by kernel_rfl) ?_; rotate_left; (focus (intro w hSw; (try dsimp only at hSw); go_simp; (try with_reducible rfl))); (try simp only [Act.put, List.setIfInBounds_toArray, List.set_cons_zero, List.set_cons_succ]))
      (refine wpAnyLU_take (i := 7) (oi := { dst := some 47, op := Op.extract (Operand.tmp 40) 0, type := 29, pos := "law8.go:316", after := #[{ on := 6, ground := Ground.data }], guard := none }) (v := ?_) rfl (by kernel_rfl) (by kernel_rfl) (by kernel_rfl) (fun _ _ _ h => h) (Or.inl ⟨by rfl, ?_⟩) (by rfl) ?_; rotate_left; (focus (intro w hSw; go_simp; (try with_reducible rfl))); (try simp only [Act.put, List.setIfInBounds_toArray, List.set_cons_zero, List.set_cons_succ]))
      (refine wpAnyLU_take (i := 8) (oi := { dst := some 48, op := Op.extract (Operand.tmp 40) 1, type := 56, pos := "law8.go:316", after := #[{ on := 6, ground := Ground.data }, { on := 10, ground := Ground.gcOnly Departure.lateStores }], guard := none }) (v := ?_) rfl (by kernel_rfl) (by kernel_rfl) (by kernel_rfl) (fun _ _ _ h => h) (Or.inl ⟨by rfl, ?_⟩) (by rfl) ?_; rotate_left; (focus (intro w hSw; go_simp; (try with_reducible rfl))); (try simp only [Act.put, List.setIfInBounds_toArray, List.set_cons_zero, List.set_cons_succ]))
      (refine wpAnyLU_take (i := 9) (oi := { dst := some 49, op := Op.extract (Operand.tmp 40) 2, type := 32, pos := "law8.go:316", after := #[{ on := 6, ground := Ground.data }, { on := 11, ground := Ground.gcOnly Departure.lateStores }], guard := none }) (v := ?_) rfl (by kernel_rfl) (by kernel_rfl) (by kernel_rfl) (fun _ _ _ h => h) (Or.inl ⟨by rfl, ?_⟩) (by rfl) ?_; rotate_left; (focus (intro w hSw; go_simp; (try with_reducible rfl))); (try simp only [Act.put, List.setIfInBounds_toArray, List.set_cons_zero, List.set_cons_succ]))
      (have r0 := (kF7).cell 0; have r1 := (kF7).cell 1; have r2 := (kF7).cell 2; have r3 := (kF7).cell 3; have r4 := (kF7).cell 4; have r5 := (kF7).cell 5; have r6 := (kF7).cell 6; have r7 := (kF7).cell 7)
      (have z0 := (kF7).frozen 0; have z1 := (kF7).frozen 1; have z2 := (kF7).frozen 2; have z3 := (kF7).frozen 3; have z4 := (kF7).frozen 4; have z5 := (kF7).frozen 5; have z6 := (kF7).frozen 6; have z7 := (kF7).frozen 7)
      have y5 := hB5.size
      have hgF0 : w.heap.size ≤ gF := hgFl
      have hB6 := hB5.trans (hb6.mono y5)
      have hB7 := below_put8 hB6 hgF0 f6
      have kF8 := kF7.put8 f6
      have hO8 := (hO6.mono y5).put8 kF7 f6
      have k18 := (k15.all hb6).far8 hgF1 f6
      have k28 := (k25.all hb6).far8 hgF2 f6
      have a18 := (a15.all hb6).put8 kF7 f6
      have a28 := (a25.all hb6).put8 kF7 f6
      clear RU hHeld kF6 hO5 a15 a25 k15 k25 hb6 hO6
      have oS6 := hrow6
      rw [hS13] at oS6
      obtain ⟨A13, c13, rfl, _, _⟩ := own_form hrow6
      rw [hS13] at oS6 ⊢
      have oS7 := own_far8 (oS6.mono y5) kF7 (by decide) f6
      have HS11 := Lib.hid hS11
      have HS12 := Lib.hid hS12
      have hout6 : Hid (outP f6.er = ((joinP twoA twoB).1, 0)) := by show _ = _; rw [hE6]; exact hout
      clear hrow6 hS11 hS12 hS13 hout oS6
      (refine wpAnyL_ready (rs := [10]) (by kernel_rfl) (by simp) ?_; refine List.forall_mem_cons.2 ⟨stepLate (o := { dst := none, op := Op.store 29 (Operand.tmp 5) (Operand.tmp 47), type := 0, pos := "law8.go:316", after := #[{ on := 7, ground := Ground.data }, { on := 5, ground := Ground.chain }, { on := 0, ground := Ground.phase }, { on := 1, ground := Ground.phase }, { on := 2, ground := Ground.phase }, { on := 3, ground := Ground.phase }, { on := 4, ground := Ground.phase }, { on := 5, ground := Ground.phase }, { on := 6, ground := Ground.phase }, { on := 7, ground := Ground.phase }, { on := 8, ground := Ground.textOnly Departure.lateStores }, { on := 9, ground := Ground.textOnly Departure.lateStores }], guard := none }) rfl (by rfl) (fun K hK => ?_), fun _ h => by cases h⟩; go_simp; refine hK.out _ _ ?_; (clear hK K; (try simp only [Act.put, List.setIfInBounds_toArray, List.set_cons_zero, List.set_cons_succ])))
      (clear r0 r1 r2 r3 r4 r5 r6 r7)
      (clear z0 z1 z2 z3 z4 z5 z6 z7)
      (refine wpAnyLU_take (i := 11) (oi := { dst := some 8, op := Op.assign (Operand.tmp 48), type := 56, pos := "law8.go:316", after := #[{ on := 8, ground := Ground.data }, { on := 10, ground := Ground.chain }, { on := 0, ground := Ground.phase }, { on := 1, ground := Ground.phase }, { on := 2, ground := Ground.phase }, { on := 3, ground := Ground.phase }, { on := 4, ground := Ground.phase }, { on := 5, ground := Ground.phase }, { on := 6, ground := Ground.phase }, { on := 7, ground := Ground.phase }, { on := 8, ground := Ground.phase }, { on := 9, ground := Ground.textOnly Departure.lateStores }, { on := 10, ground := Ground.phase }], guard := none }) (v := ?_) rfl (by kernel_rfl) (by kernel_rfl) (by kernel_rfl) (fun _ _ _ h => h) (Or.inl ⟨by rfl, ?_⟩) (by rfl) ?_; rotate_left; (focus (intro w hSw; go_simp; (try with_reducible rfl))); (try simp only [Act.put, List.setIfInBounds_toArray, List.set_cons_zero, List.set_cons_succ]))
      (refine wpAnyLU_take (i := 12) (oi := { dst := some 9, op := Op.assign (Operand.tmp 49), type := 32, pos := "law8.go:316", after := #[{ on := 9, ground := Ground.data }, { on := 11, ground := Ground.chain }, { on := 0, ground := Ground.phase }, { on := 1, ground := Ground.phase }, { on := 2, ground := Ground.phase }, { on := 3, ground := Ground.phase }, { on := 4, ground := Ground.phase }, { on := 5, ground := Ground.phase }, { on := 6, ground := Ground.phase }, { on := 7, ground := Ground.phase }, { on := 8, ground := Ground.phase }, { on := 9, ground := Ground.phase }, { on := 10, ground := Ground.phase }, { on := 11, ground := Ground.phase }], guard := none }) (v := ?_) rfl (by kernel_rfl) (by kernel_rfl) (by kernel_rfl) (fun _ _ _ h => h) (Or.inl ⟨by rfl, ?_⟩) (by rfl) ?_; rotate_left; (focus (intro w hSw; go_simp; (try with_reducible rfl))); (try simp only [Act.put, List.setIfInBounds_toArray, List.set_cons_zero, List.set_cons_succ]))
      refine wpAnyL_done (by kernel_rfl) ?_ _
      obtain ⟨w8, hw8⟩ : ∃ y, y = ((((((((w6.setCell ⟨gF, 0, none⟩ (.slice f6.pa f6.ps.length f6.pc)).setCell ⟨gF, 1, none⟩ (.slice f6.la f6.pl.length f6.lc)).setCell ⟨gF, 2, none⟩ (.int .i64 f6.now)).setCell ⟨gF, 3, none⟩ (.slice f6.da f6.dn.length f6.dc)).setCell ⟨gF, 4, none⟩ (.slice f6.ha f6.hv.length f6.hc)).setCell ⟨gF, 5, none⟩ (.slice f6.ga f6.gs.length f6.gc)).setCell ⟨gF, 6, none⟩ (.slice f6.wa f6.wk.length f6.wc)).setCell ⟨gF, 7, none⟩ (.slice f6.na f6.nt.length f6.nc)) := ⟨_, rfl⟩
      rw [← hw8] at hB7 kF8 hO8 k18 k28 a18 a28 oS7 ⊢
      clear hw8 kF7 hB6 hB5
      (have q0 := (kF8).cell 0; have q1 := (kF8).cell 1; have q2 := (kF8).cell 2; have q3 := (kF8).cell 3; have q4 := (kF8).cell 4; have q5 := (kF8).cell 5; have q6 := (kF8).cell 6; have q7 := (kF8).cell 7)
      have OC := Lib.hid (outcome_any f6 w8 hO8.at_)
      rw [hout6.out] at OC
      go_wp2_with fail
      refine OC.out.mono ?_
      rintro e w9 ⟨p, rfl, op, ep, hb9⟩
      dsimp only at ep ⊢
      go_upto_region 11 with (fail)
      have hs := hb9.alloc hb9.size (.cells #[.slice (p).fa (p).frs.length (p).fc, .slice (p).da (p).dfs.length (p).dc] 44)
      have kp := Blk.new w9 44 #[.slice p.fa p.frs.length p.fc, .slice p.da p.dfs.length p.dc]
      have op2 := op.alloc (.cells #[.slice (p).fa (p).frs.length (p).fc, .slice (p).da (p).dfs.length (p).dc] 44)
      replace k18 := k18.all hs
      replace k28 := k28.all hs
      replace a18 := a18.all hs
      replace a28 := a28.all hs
      replace oS7 := own_all oS7 hs
      replace hB7 := hB7.trans (hs.mono hB7.size)
      obtain ⟨gp, hgp⟩ : ∃ g, g = w9.heap.size := ⟨_, rfl⟩
      obtain ⟨wa, hwa⟩ : ∃ W', W' = w9.alloc (.cells #[.slice (p).fa (p).frs.length (p).fc, .slice (p).da (p).dfs.length (p).dc] 44) := ⟨_, rfl⟩
      rw [← hgp] at kp ⊢
      rw [← hwa] at kp op2 k18 k28 a18 a28 oS7 hB7 ⊢
      clear hwa hgp hs OC kF8 hO8 op hb9
      (clear q0 q1 q2 q3 q4 q5 q6 q7)
      have q0 := k18.cell 0
      have q1 := k18.cell 1
      have q2 := k28.cell 0
      have q3 := k28.cell 1
      have JN := Lib.hid (join_any p1 p2 wa a18.at_ a28.at_)
      rw [EA.out, EB.out] at JN
      go_wp2_with fail
      refine JN.out.mono ?_
      rintro e wb ⟨q, rfl, oq, eq, hbb⟩
      rw [fm_join]
      go_upto_region 12 with (fail)
      have hs := hbb.alloc hbb.size (.cells #[.slice (q).fa (q).frs.length (q).fc, .slice (q).da (q).dfs.length (q).dc] 44)
      have kq := Blk.new wb 44 #[.slice q.fa q.frs.length q.fc, .slice q.da q.dfs.length q.dc]
      have oq2 := oq.alloc (.cells #[.slice (q).fa (q).frs.length (q).fc, .slice (q).da (q).dfs.length (q).dc] 44)
      have op3 := op2.all hs
      have kp3 := kp.all hs
      replace oS7 := own_all oS7 hs
      replace hB7 := hB7.trans (hs.mono hB7.size)
      obtain ⟨gq, hgq⟩ : ∃ g, g = wb.heap.size := ⟨_, rfl⟩
      obtain ⟨wc, hwc⟩ : ∃ W', W' = wb.alloc (.cells #[.slice (q).fa (q).frs.length (q).fc, .slice (q).da (q).dfs.length (q).dc] 44) := ⟨_, rfl⟩
      rw [← hgq] at kq ⊢
      rw [← hwc] at kq oq2 op3 kp3 oS7 hB7 ⊢
      clear hwc hgq hs JN k18 k28 a18 a28 kp op2 oq hbb q0 q1 q2 q3
      obtain ⟨g13, cap13, hv13, _, _⟩ := oS7.form (by omega)
      injection hv13 with hv13 _ hc13
      subst hv13 hc13
      have d11 : wc.cell? ⟨g13, 11, none⟩ = some (.int .i64 0) := by rw [oS7.cellAt 11 (by omega), intsV, List.getElem?_map, HS11.out]; rfl
      have d12 : wc.cell? ⟨g13, 12, none⟩ = some (.int .i64 11) := by rw [oS7.cellAt 12 (by omega), intsV, List.getElem?_map, HS12.out]; rfl
      have q0 := kp3.cell 0
      have q1 := kp3.cell 1
      have q2 := kq.cell 0
      have q3 := kq.cell 1
      have SM := Lib.hid (same_any p q wc op3.at_ oq2.at_)
      rw [show decide (p.er = q.er) = true from decide_eq_true (ep.trans eq.symm)] at SM
      clear oS7
      go_wp2_with (go_at_call 12; refine SM.out.mono ?_; rintro e wd ⟨rfl, hbd⟩)
      go_ret
      exact ⟨rfl, hB7.trans (hbd.mono hB7.size)⟩
end Go.Proofs.Ytkfmkemjoddinaa
