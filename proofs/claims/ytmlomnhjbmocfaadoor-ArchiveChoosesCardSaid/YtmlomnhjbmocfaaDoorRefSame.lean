/- ropewalkref.SamePart: what it computes. -/
import Derived.Test.YtmlomnhjbmocfaaDoorSameW
import Derived.Test.YtmlomnhjbmocfaaDoorB1
import Derived.Deep.DeepCutAuto
set_option linter.all false
namespace Go.Proofs.YtmlomnhjbmocfaaDoor
open Go.RowKit

theorem er_no {a b : PtM} {k : Nat} {x y : FgM} (hx : a.frs[k]? = some x) (hy : b.frs[k]? = some y) (h : ¬ x.f = y.f) : decide (a.er = b.er) = false := decide_eq_false fun e => by
  have e2 := (er_eq.1 e).2
  have := congrArg (fun l => l[k]?) e2
  simp [hx, hy] at this
  exact h this
theorem frg_eq {x y : Frg} (h1 : x.sect = y.sect) (h2 : x.align = y.align) (h3 : x.group = y.group) (h4 : x.size = y.size) (h5 : x.bs = y.bs) (h6 : x.rs = y.rs) : x = y := by
  obtain ⟨a, b, c, d, e, f⟩ := x
  obtain ⟨a', b', c', d', e', f'⟩ := y
  simp only at h1 h2 h3 h4 h5 h6
  subst h1 h2 h3 h4 h5 h6
  rfl

set_option maxHeartbeats 4000000 in
theorem samePart_any (a b : PtM) (w : World) (ha : a.At w w.heap.size) (hb : b.At w w.heap.size) :
    Calls Tryd.prog 23 #[.agg #[.slice a.fa a.frs.length a.fc, .slice a.da a.dfs.length a.dc], .agg #[.slice b.fa b.frs.length b.fc, .slice b.da b.dfs.length b.dc]] w
      fun e w' => e = .returned (.bool (decide (a.er = b.er))) ∧ Below w.heap.size w w' := by
  have hX := (Blk.new' w 25 #[.slice a.fa a.frs.length a.fc, .slice a.da a.dfs.length a.dc] rfl).alloc (.cells #[.slice (b).fa (b).frs.length (b).fc, .slice (b).da (b).dfs.length (b).dc] 25)
  have hY := Blk.new' (w.alloc (.cells #[.slice (a).fa (a).frs.length (a).fc, .slice (a).da (a).dfs.length (a).dc] 25)) 25 #[.slice b.fa b.frs.length b.fc, .slice b.da b.dfs.length b.dc] (show w.heap.size + 1 = _ by simp)
  have hb0 : Below w.heap.size w ((w.alloc (.cells #[.slice (a).fa (a).frs.length (a).fc, .slice (a).da (a).dfs.length (a).dc] 25)).alloc (.cells #[.slice (b).fa (b).frs.length (b).fc, .slice (b).da (b).dfs.length (b).dc] 25)) := by (repeat' (first | exact Below.refl _ _ | assumption | refine Below.setCell ?_ (by first | omega | exact Below.size (by assumption) | (simp; done) | (simp; omega)) _ | refine Below.alloc ?_ (by first | omega | exact Below.size (by assumption) | (simp; done) | (simp; omega)) _ | refine Below.drew ?_ | refine below_drewN ?_ _))
  have ha0 := ha.all hb0
  have hb0' := hb.all hb0
  have HD := Lib.hid (equalDefs_any a.da b.da a.dc b.dc a.dfs b.dfs _ ha0.df hb0'.df ha.dm)
  by_cases hlen : a.frs.length = b.frs.length
  · have t1 : ((a.frs.length : Int) != (b.frs.length : Int)) = false := by rw [hlen]; simp
    have l0 : a.frs.length ≤ b.frs.length := by omega
    have HL := Lib.hid hlen
    clear hlen
    have ham := ha.fm
    rcases hd : (a.dfs == b.dfs) with _ | _
    · have HNO : Hid (decide (a.er = b.er) = false) := decide_eq_false fun e => by
        have := (er_eq.1 e).1
        rw [this] at hd
        simp at hd
      rw [hd] at HD
      clear hd
      go_enter Tryd.func23, Tryd.ntmps23
      go_wp2_with fail
      refine HD.out.mono ?_
      rintro e w1 ⟨rfl, hb1⟩
      go_wp2
      go_ret
      exact ⟨ret_val (by rw [HNO.out]; rfl), hb0.trans (hb1.mono hb0.size)⟩
    · have hde : a.dfs = b.dfs := by simpa using hd
      rw [hd] at HD
      have HDE := Lib.hid hde
      clear hd hde
      go_enter Tryd.func23, Tryd.ntmps23
      go_wp2_with fail
      refine HD.out.mono ?_
      rintro e w1 ⟨rfl, hb1⟩
      have kX := hX.all hb1
      have kY := hY.all hb1
      have hB1 : Below w.heap.size w w1 := hb0.trans (hb1.mono hb0.size)
      have x0 := kX.cell 0
      clear hb1 hX hY ha0 hb0' hb0
      obtain ⟨gY, hgY⟩ : ∃ g, g = w.heap.size + 1 := ⟨_, rfl⟩
      rw [← hgY] at kY ⊢
      clear hgY
      go_wp2_with fail
      clear x0
      go_loopw [26] (fun i wr => ∃ k : Nat, k ≤ a.frs.length ∧ i = .int .i64 k ∧ Hid ((a.frs.take k).map FgM.f = (b.frs.take k).map FgM.f) ∧ Blk wr gY 25 #[.slice b.fa b.frs.length b.fc, .slice b.da b.dfs.length b.dc] ∧ Below w.heap.size w wr) (fun i _ => a.frs.length - (intOf i).toNat)
      case atStart => exact ⟨0, Nat.zero_le _, rfl, Lib.hid (by simp), kY, hB1⟩
      case round =>
        clear kY hB1 kX
        obtain ⟨k, hk, rfl, htk, kY, hB⟩ := hrel
        by_cases hlt : k < a.frs.length
        · have hlt' : k < b.frs.length := by omega
          obtain ⟨x, hx⟩ : ∃ x, a.frs[k]? = some x := ⟨_, List.getElem?_eq_getElem hlt⟩
          obtain ⟨y, hy⟩ : ∃ y, b.frs[k]? = some y := ⟨_, List.getElem?_eq_getElem hlt'⟩
          have gx := (ha.each x (List.mem_of_getElem? hx)).keep hB hB.size
          have gy := (hb.each y (List.mem_of_getElem? hy)).keep hB hB.size
          obtain ⟨b1, o1, e1, bl1, c0, c1, c2, c3, c4, c5⟩ := fg_get (ha.fr.below hB) hx
          obtain ⟨b2, o2, e2, bl2, d0, d1, d2, d3, d4, d5⟩ := fg_get ((hb.fr.below hB).alloc hB.size (.cells #[.int .i64 x.f.sect, .int .i64 x.f.align, .string x.f.group, .slice x.ba x.f.bs.length x.bc, .int .i64 x.f.size, .slice x.ra x.f.rs.length x.rc] 63)) hy
          have hBW : Below w.heap.size w ((wr.alloc (.cells #[.int .i64 x.f.sect, .int .i64 x.f.align, .string x.f.group, .slice x.ba x.f.bs.length x.bc, .int .i64 x.f.size, .slice x.ra x.f.rs.length x.rc] 63)).alloc (.cells #[.int .i64 y.f.sect, .int .i64 y.f.align, .string y.f.group, .slice y.ba y.f.bs.length y.bc, .int .i64 y.f.size, .slice y.ra y.f.rs.length y.rc] 63)) := by
            have := hB.size
            exact (hB.alloc (by omega) _).alloc (by simp; omega) _
          have hst : Below wr.heap.size wr ((wr.alloc (.cells #[.int .i64 x.f.sect, .int .i64 x.f.align, .string x.f.group, .slice x.ba x.f.bs.length x.bc, .int .i64 x.f.size, .slice x.ra x.f.rs.length x.rc] 63)).alloc (.cells #[.int .i64 y.f.sect, .int .i64 y.f.align, .string y.f.group, .slice y.ba y.f.bs.length y.bc, .int .i64 y.f.size, .slice y.ra y.f.rs.length y.rc] 63)) := by (repeat' (first | exact Below.refl _ _ | assumption | refine Below.setCell ?_ (by first | omega | exact Below.size (by assumption) | (simp; done) | (simp; omega)) _ | refine Below.alloc ?_ (by first | omega | exact Below.size (by assumption) | (simp; done) | (simp; omega)) _ | refine Below.drew ?_ | refine below_drewN ?_ _))
          have gx := gx.all hst
          have gy := gy.all hst
          have kY2 := kY.all hst
          have y0 := (kY.alloc (.cells #[.int .i64 x.f.sect, .int .i64 x.f.align, .string x.f.group, .slice x.ba x.f.bs.length x.bc, .int .i64 x.f.size, .slice x.ra x.f.rs.length x.rc] 63)).cell 0
          have HBE := Lib.hid (bytesEqual_any x.ba y.ba x.bc y.bc x.f.bs y.f.bs _ gx.by_ gy.by_)
          have HRE := Lib.hid (equalRels_any x.ra y.ra x.rc y.rc x.f.rs y.f.rs _ gx.re gy.re gx.rm)
          have HX := Lib.hid hx
          have HY := Lib.hid hy
          have HT : Hid (x.f = y.f → (a.frs.take (k + 1)).map FgM.f = (b.frs.take (k + 1)).map FgM.f) := fun e => by
            rw [List.take_add_one, List.take_add_one, hx, hy, List.map_append, List.map_append, htk.out]
            simp [e]
          clear hx hy gx gy
          have E1 := Lib.hid e1
          rw [e1]
          rw [e2] at y0
          have E2 := Lib.hid e2
          clear e1 e2
          go_upto_region 7 with (fail)
          clear c0 c1 c2 c3 c4 c5 d0 d1 d2 d3 d4 d5 bl1 bl2 y0
          have kx := (Blk.new wr 63 #[.int .i64 x.f.sect, .int .i64 x.f.align, .string x.f.group, .slice x.ba x.f.bs.length x.bc, .int .i64 x.f.size, .slice x.ra x.f.rs.length x.rc]).alloc (.cells #[.int .i64 y.f.sect, .int .i64 y.f.align, .string y.f.group, .slice y.ba y.f.bs.length y.bc, .int .i64 y.f.size, .slice y.ra y.f.rs.length y.rc] 63)
          have ky := Blk.new' (wr.alloc (.cells #[.int .i64 x.f.sect, .int .i64 x.f.align, .string x.f.group, .slice x.ba x.f.bs.length x.bc, .int .i64 x.f.size, .slice x.ra x.f.rs.length x.rc] 63)) 63 #[.int .i64 y.f.sect, .int .i64 y.f.align, .string y.f.group, .slice y.ba y.f.bs.length y.bc, .int .i64 y.f.size, .slice y.ra y.f.rs.length y.rc] (g := wr.heap.size + 1) (by simp)
          obtain ⟨W, hW⟩ : ∃ W', W' = (wr.alloc (.cells #[.int .i64 x.f.sect, .int .i64 x.f.align, .string x.f.group, .slice x.ba x.f.bs.length x.bc, .int .i64 x.f.size, .slice x.ra x.f.rs.length x.rc] 63)).alloc (.cells #[.int .i64 y.f.sect, .int .i64 y.f.align, .string y.f.group, .slice y.ba y.f.bs.length y.bc, .int .i64 y.f.size, .slice y.ra y.f.rs.length y.rc] 63) := ⟨_, rfl⟩
          rw [← hW] at hBW hst kY2 HBE HRE kx ky ⊢
          clear hW
          have c0 := kx.cell 0
          have c1 := kx.cell 1
          have c2 := kx.cell 2
          have c3 := kx.cell 3
          have c4 := kx.cell 4
          have c5 := kx.cell 5
          have d0 := ky.cell 0
          have d1 := ky.cell 1
          have d2 := ky.cell 2
          have d3 := ky.cell 3
          have d4 := ky.cell 4
          have d5 := ky.cell 5
          by_cases h1 : x.f.sect = y.f.sect
          · have u1 : (x.f.sect != y.f.sect) = false := by simp [h1]
            by_cases h2 : x.f.align = y.f.align
            · have u2 : (x.f.align != y.f.align) = false := by simp [h2]
              by_cases h3 : x.f.group = y.f.group
              · have u3 := toList_eq h3
                by_cases h4 : x.f.size = y.f.size
                · have u4 : (x.f.size != y.f.size) = false := by simp [h4]
                  rcases h5 : (x.f.bs == y.f.bs) with _ | _
                  · have HNO := Lib.hid (er_no HX.out HY.out (fun e => by rw [e] at h5; simp at h5))
                    rw [h5] at HBE
                    clear h1 h2 h3 h4 h5
                    ((go_wp2_with (first | (go_at_call 36; refine HBE.out.mono ?_; rintro e w' ⟨rfl, rfl⟩) | (go_at_call 57; refine HRE.out.mono ?_; rintro e w2 ⟨rfl, hb2⟩))); go_ret; exact ⟨ret_val (by rw [HNO.out]; rfl), by first | exact hb2 | (exact hBW.trans (hb2.mono hBW.size)) | exact hBW | (repeat' (first | exact Below.refl _ _ | assumption | refine Below.setCell ?_ (by first | omega | exact Below.size (by assumption) | (simp; done) | (simp; omega)) _ | refine Below.alloc ?_ (by first | omega | exact Below.size (by assumption) | (simp; done) | (simp; omega)) _ | refine Below.drew ?_ | refine below_drewN ?_ _))⟩)
                  · rw [h5] at HBE
                    rcases h6 : (x.f.rs == y.f.rs) with _ | _
                    · have HNO := Lib.hid (er_no HX.out HY.out (fun e => by rw [e] at h6; simp at h6))
                      rw [h6] at HRE
                      clear h1 h2 h3 h4 h5 h6
                      ((go_wp2_with (first | (go_at_call 36; refine HBE.out.mono ?_; rintro e w' ⟨rfl, rfl⟩) | (go_at_call 57; refine HRE.out.mono ?_; rintro e w2 ⟨rfl, hb2⟩))); go_ret; exact ⟨ret_val (by rw [HNO.out]; rfl), by first | exact hb2 | (exact hBW.trans (hb2.mono hBW.size)) | exact hBW | (repeat' (first | exact Below.refl _ _ | assumption | refine Below.setCell ?_ (by first | omega | exact Below.size (by assumption) | (simp; done) | (simp; omega)) _ | refine Below.alloc ?_ (by first | omega | exact Below.size (by assumption) | (simp; done) | (simp; omega)) _ | refine Below.drew ?_ | refine below_drewN ?_ _))⟩)
                    · rw [h6] at HRE
                      have HE := Lib.hid (HT.out (frg_eq h1 h2 h3 h4 (by simpa using h5) (by simpa using h6)))
                      clear h1 h2 h3 h4 h5 h6
                      (go_wp2_with (first | (go_at_call 36; refine HBE.out.mono ?_; rintro e w' ⟨rfl, rfl⟩) | (go_at_call 57; refine HRE.out.mono ?_; rintro e w2 ⟨rfl, hb2⟩)))
                      go_roundw
                      case rel => exact ⟨k + 1, by omega, by go_num, HE, kY2.all hb2, hBW.trans (hb2.mono hBW.size)⟩
                      case measure => simp [intOf]; omega
                · have u4 : (x.f.size != y.f.size) = true := by simpa using h4
                  have HNO := Lib.hid (er_no HX.out HY.out (fun e => h4 (by rw [e])))
                  clear h1 h2 h3 h4
                  ((go_wp2_with (first | (go_at_call 36; refine HBE.out.mono ?_; rintro e w' ⟨rfl, rfl⟩) | (go_at_call 57; refine HRE.out.mono ?_; rintro e w2 ⟨rfl, hb2⟩))); go_ret; exact ⟨ret_val (by rw [HNO.out]; rfl), by first | exact hb2 | (exact hBW.trans (hb2.mono hBW.size)) | exact hBW | (repeat' (first | exact Below.refl _ _ | assumption | refine Below.setCell ?_ (by first | omega | exact Below.size (by assumption) | (simp; done) | (simp; omega)) _ | refine Below.alloc ?_ (by first | omega | exact Below.size (by assumption) | (simp; done) | (simp; omega)) _ | refine Below.drew ?_ | refine below_drewN ?_ _))⟩)
              · have u3 := toList_ne h3
                have HNO := Lib.hid (er_no HX.out HY.out (fun e => h3 (by rw [e])))
                clear h1 h2 h3
                ((go_wp2_with (first | (go_at_call 36; refine HBE.out.mono ?_; rintro e w' ⟨rfl, rfl⟩) | (go_at_call 57; refine HRE.out.mono ?_; rintro e w2 ⟨rfl, hb2⟩))); go_ret; exact ⟨ret_val (by rw [HNO.out]; rfl), by first | exact hb2 | (exact hBW.trans (hb2.mono hBW.size)) | exact hBW | (repeat' (first | exact Below.refl _ _ | assumption | refine Below.setCell ?_ (by first | omega | exact Below.size (by assumption) | (simp; done) | (simp; omega)) _ | refine Below.alloc ?_ (by first | omega | exact Below.size (by assumption) | (simp; done) | (simp; omega)) _ | refine Below.drew ?_ | refine below_drewN ?_ _))⟩)
            · have u2 : (x.f.align != y.f.align) = true := by simpa using h2
              have HNO := Lib.hid (er_no HX.out HY.out (fun e => h2 (by rw [e])))
              clear h1 h2
              ((go_wp2_with (first | (go_at_call 36; refine HBE.out.mono ?_; rintro e w' ⟨rfl, rfl⟩) | (go_at_call 57; refine HRE.out.mono ?_; rintro e w2 ⟨rfl, hb2⟩))); go_ret; exact ⟨ret_val (by rw [HNO.out]; rfl), by first | exact hb2 | (exact hBW.trans (hb2.mono hBW.size)) | exact hBW | (repeat' (first | exact Below.refl _ _ | assumption | refine Below.setCell ?_ (by first | omega | exact Below.size (by assumption) | (simp; done) | (simp; omega)) _ | refine Below.alloc ?_ (by first | omega | exact Below.size (by assumption) | (simp; done) | (simp; omega)) _ | refine Below.drew ?_ | refine below_drewN ?_ _))⟩)
          · have u1 : (x.f.sect != y.f.sect) = true := by simpa using h1
            have HNO := Lib.hid (er_no HX.out HY.out (fun e => h1 (by rw [e])))
            clear h1
            ((go_wp2_with (first | (go_at_call 36; refine HBE.out.mono ?_; rintro e w' ⟨rfl, rfl⟩) | (go_at_call 57; refine HRE.out.mono ?_; rintro e w2 ⟨rfl, hb2⟩))); go_ret; exact ⟨ret_val (by rw [HNO.out]; rfl), by first | exact hb2 | (exact hBW.trans (hb2.mono hBW.size)) | exact hBW | (repeat' (first | exact Below.refl _ _ | assumption | refine Below.setCell ?_ (by first | omega | exact Below.size (by assumption) | (simp; done) | (simp; omega)) _ | refine Below.alloc ?_ (by first | omega | exact Below.size (by assumption) | (simp; done) | (simp; omega)) _ | refine Below.drew ?_ | refine below_drewN ?_ _))⟩)
        · have HE : Hid (decide (a.er = b.er) = true) := decide_eq_true (er_eq.2 ⟨HDE.out, by
            have := htk.out
            rw [show k = a.frs.length by omega, List.take_length] at this
            rw [HL.out, List.take_length] at this
            exact this⟩)
          go_wp2
          go_ret
          exact ⟨ret_val (by rw [HE.out]; rfl), hB⟩
  · have t1 : ((a.frs.length : Int) != (b.frs.length : Int)) = true := by simp; omega
    have HNO : Hid (decide (a.er = b.er) = false) := decide_eq_false fun e => hlen (by have := congrArg List.length (er_eq.1 e).2; simpa using this)
    clear hlen
    go_enter Tryd.func23, Tryd.ntmps23
    go_wp2
    go_ret
    exact ⟨ret_val (by rw [HNO.out]; rfl), by first | exact hb0 | (repeat' (first | exact Below.refl _ _ | assumption | refine Below.setCell ?_ (by first | omega | exact Below.size (by assumption) | (simp; done) | (simp; omega)) _ | refine Below.alloc ?_ (by first | omega | exact Below.size (by assumption) | (simp; done) | (simp; omega)) _ | refine Below.drew ?_ | refine below_drewN ?_ _))⟩
end Go.Proofs.YtmlomnhjbmocfaaDoor
