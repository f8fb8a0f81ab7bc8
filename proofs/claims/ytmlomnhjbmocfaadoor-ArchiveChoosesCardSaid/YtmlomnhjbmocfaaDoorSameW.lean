/- obj.Same: what it computes. -/
import Derived.Test.YtmlomnhjbmocfaaDoorB1
import Derived.Laws.EntriesVeiled
set_option linter.all false
namespace Go.Proofs.YtmlomnhjbmocfaaDoor
open Go.RowKit

theorem same_no {x y : Frg} (h : ¬ (x.sect = y.sect ∧ x.align = y.align ∧ x.group = y.group ∧ x.bs = y.bs ∧ x.size = y.size ∧ x.rs = y.rs)) : decide (x = y) = false := decide_eq_false fun e => h (by subst e; exact ⟨rfl, rfl, rfl, rfl, rfl, rfl⟩)
theorem same_yes {x y : Frg} (h : x.sect = y.sect ∧ x.align = y.align ∧ x.group = y.group ∧ x.bs = y.bs ∧ x.size = y.size ∧ x.rs = y.rs) : decide (x = y) = true := decide_eq_true (by
  obtain ⟨a, b, c, d, e, f⟩ := x
  obtain ⟨a', b', c', d', e', f'⟩ := y
  simp only at h
  obtain ⟨rfl, rfl, rfl, rfl, rfl, rfl⟩ := h
  rfl)
theorem toList_ne {a b : ByteArray} (h : a ≠ b) : (a.toList == b.toList) = false := by rw [toList_beq]; exact beq_eq_false_iff_ne.2 h
theorem toList_eq {a b : ByteArray} (h : a = b) : (a.toList == b.toList) = true := by rw [h]; simp

set_option maxHeartbeats 2000000 in
theorem same1_any (x y : FgM) (w : World) (hx : x.Good w w.heap.size) (hy : y.Good w w.heap.size) :
    Calls Tryd.prog 71 #[.agg #[.int .i64 x.f.sect, .int .i64 x.f.align, .string x.f.group, .slice x.ba x.f.bs.length x.bc, .int .i64 x.f.size, .slice x.ra x.f.rs.length x.rc], .agg #[.int .i64 y.f.sect, .int .i64 y.f.align, .string y.f.group, .slice y.ba y.f.bs.length y.bc, .int .i64 y.f.size, .slice y.ra y.f.rs.length y.rc]] w
      fun e w' => e = .returned (.bool (decide (x.f = y.f))) ∧ Below w.heap.size w w' := by
  obtain ⟨xb, xr, xm, xn⟩ := hx
  obtain ⟨yb, yr, ym, yn⟩ := hy
  obtain ⟨⟨xs, xa, xg, xbs, xz, xrs⟩, xba, xbc, xra, xrc⟩ := x
  obtain ⟨⟨ys, ya, yg, ybs, yz, yrs⟩, yba, ybc, yra, yrc⟩ := y
  simp only at *
  have HB : Hid (∀ W, Below w.heap.size w W → Calls Tryd.prog 72 #[.slice xba xbs.length xbc, .slice yba ybs.length ybc] W fun e w' => e = .returned (.bool (xbs == ybs)) ∧ Below W.heap.size W w') :=
    fun W hW => equalBytes_any xba yba xbc ybc xbs ybs W ((xb.below hW).more hW.size) ((yb.below hW).more hW.size) xm
  have HR : Hid (∀ W, Below w.heap.size w W → Calls Tryd.prog 57 #[.slice xra xrs.length xrc, .slice yra yrs.length yrc] W fun e w' => e = .returned (.bool (xrs == yrs)) ∧ Below W.heap.size W w') :=
    fun W hW => equalRels_any xra yra xrc yrc xrs yrs W ((xr.below hW).more hW.size) ((yr.below hW).more hW.size) xn
  clear xb xr yb yr
  have hX := Blk.new' w 63 #[.int .i64 xs, .int .i64 xa, .string xg, .slice xba xbs.length xbc, .int .i64 xz, .slice xra xrs.length xrc] rfl
  have hY := Blk.new' (w.alloc (.cells #[.int .i64 xs, .int .i64 xa, .string xg, .slice xba xbs.length xbc, .int .i64 xz, .slice xra xrs.length xrc] 63)) 63 #[.int .i64 ys, .int .i64 ya, .string yg, .slice yba ybs.length ybc, .int .i64 yz, .slice yra yrs.length yrc] (show w.heap.size + 1 = _ by simp)
  by_cases h1 : xs = ys
  · have t1 : (xs == ys) = true := beq_iff_eq.2 h1
    by_cases h2 : xa = ya
    · have t2 : (xa == ya) = true := beq_iff_eq.2 h2
      by_cases h3 : xg = yg
      · have t3 := toList_eq h3
        rcases h4 : (xbs == ybs) with _ | _
        · have H := Lib.hid (same_no (x := ⟨xs, xa, xg, xbs, xz, xrs⟩) (y := ⟨ys, ya, yg, ybs, yz, yrs⟩) (fun h => by have : xbs = ybs := h.2.2.2.1; rw [this] at h4; simp at h4))
          rw [h4] at HB
          clear h1 h2 h3 h4
          (go_enter Tryd.func71, Tryd.ntmps71; go_wp2_with (first | (go_at_call 72; refine (HB.out _ (by (repeat' (first | exact Below.refl _ _ | assumption | refine Below.setCell ?_ (by first | omega | exact Below.size (by assumption) | (simp; done) | (simp; omega)) _ | refine Below.alloc ?_ (by first | omega | exact Below.size (by assumption) | (simp; done) | (simp; omega)) _ | refine Below.drew ?_ | refine below_drewN ?_ _)))).mono ?_; rintro e w1 ⟨rfl, hb1⟩; have hX1 := (hX.alloc (.cells #[.int .i64 ys, .int .i64 ya, .string yg, .slice yba ybs.length ybc, .int .i64 yz, .slice yra yrs.length yrc] 63)).all hb1; have hY1 := hY.all hb1; have c4 := hX1.cell 4; have c5 := hX1.cell 5; have d4 := hY1.cell 4; have d5 := hY1.cell 5; have hb2 : Below w.heap.size w w1 := ((Below.refl w.heap.size w).alloc (Nat.le_refl _) (.cells #[.int .i64 xs, .int .i64 xa, .string xg, .slice xba xbs.length xbc, .int .i64 xz, .slice xra xrs.length xrc] 63) |>.alloc (by simp) (.cells #[.int .i64 ys, .int .i64 ya, .string yg, .slice yba ybs.length ybc, .int .i64 yz, .slice yra yrs.length yrc] 63)).trans (hb1.mono (by simp; omega))) | (go_at_call 57; refine (HR.out _ hb2).mono ?_; rintro e w2 ⟨rfl, hb3⟩)); (go_ret; refine ⟨ret_val (by rw [H.out]; rfl), ?_⟩; first | exact hb2.trans (hb3.mono hb2.size) | exact hb2 | (repeat' (first | exact Below.refl _ _ | assumption | refine Below.setCell ?_ (by first | omega | exact Below.size (by assumption) | (simp; done) | (simp; omega)) _ | refine Below.alloc ?_ (by first | omega | exact Below.size (by assumption) | (simp; done) | (simp; omega)) _ | refine Below.drew ?_ | refine below_drewN ?_ _))))
        · rw [h4] at HB
          by_cases h5 : xz = yz
          · have t5 : (xz == yz) = true := beq_iff_eq.2 h5
            rcases h6 : (xrs == yrs) with _ | _
            · have H := Lib.hid (same_no (x := ⟨xs, xa, xg, xbs, xz, xrs⟩) (y := ⟨ys, ya, yg, ybs, yz, yrs⟩) (fun h => by have : xrs = yrs := h.2.2.2.2.2; rw [this] at h6; simp at h6))
              rw [h6] at HR
              clear h1 h2 h3 h4 h5 h6
              (go_enter Tryd.func71, Tryd.ntmps71; go_wp2_with (first | (go_at_call 72; refine (HB.out _ (by (repeat' (first | exact Below.refl _ _ | assumption | refine Below.setCell ?_ (by first | omega | exact Below.size (by assumption) | (simp; done) | (simp; omega)) _ | refine Below.alloc ?_ (by first | omega | exact Below.size (by assumption) | (simp; done) | (simp; omega)) _ | refine Below.drew ?_ | refine below_drewN ?_ _)))).mono ?_; rintro e w1 ⟨rfl, hb1⟩; have hX1 := (hX.alloc (.cells #[.int .i64 ys, .int .i64 ya, .string yg, .slice yba ybs.length ybc, .int .i64 yz, .slice yra yrs.length yrc] 63)).all hb1; have hY1 := hY.all hb1; have c4 := hX1.cell 4; have c5 := hX1.cell 5; have d4 := hY1.cell 4; have d5 := hY1.cell 5; have hb2 : Below w.heap.size w w1 := ((Below.refl w.heap.size w).alloc (Nat.le_refl _) (.cells #[.int .i64 xs, .int .i64 xa, .string xg, .slice xba xbs.length xbc, .int .i64 xz, .slice xra xrs.length xrc] 63) |>.alloc (by simp) (.cells #[.int .i64 ys, .int .i64 ya, .string yg, .slice yba ybs.length ybc, .int .i64 yz, .slice yra yrs.length yrc] 63)).trans (hb1.mono (by simp; omega))) | (go_at_call 57; refine (HR.out _ hb2).mono ?_; rintro e w2 ⟨rfl, hb3⟩)); (go_ret; refine ⟨ret_val (by rw [H.out]; rfl), ?_⟩; first | exact hb2.trans (hb3.mono hb2.size) | exact hb2 | (repeat' (first | exact Below.refl _ _ | assumption | refine Below.setCell ?_ (by first | omega | exact Below.size (by assumption) | (simp; done) | (simp; omega)) _ | refine Below.alloc ?_ (by first | omega | exact Below.size (by assumption) | (simp; done) | (simp; omega)) _ | refine Below.drew ?_ | refine below_drewN ?_ _))))
            · have H := Lib.hid (same_yes (x := ⟨xs, xa, xg, xbs, xz, xrs⟩) (y := ⟨ys, ya, yg, ybs, yz, yrs⟩) ⟨h1, h2, h3, beq_iff_eq.1 h4, h5, beq_iff_eq.1 h6⟩)
              rw [h6] at HR
              clear h1 h2 h3 h4 h5 h6
              (go_enter Tryd.func71, Tryd.ntmps71; go_wp2_with (first | (go_at_call 72; refine (HB.out _ (by (repeat' (first | exact Below.refl _ _ | assumption | refine Below.setCell ?_ (by first | omega | exact Below.size (by assumption) | (simp; done) | (simp; omega)) _ | refine Below.alloc ?_ (by first | omega | exact Below.size (by assumption) | (simp; done) | (simp; omega)) _ | refine Below.drew ?_ | refine below_drewN ?_ _)))).mono ?_; rintro e w1 ⟨rfl, hb1⟩; have hX1 := (hX.alloc (.cells #[.int .i64 ys, .int .i64 ya, .string yg, .slice yba ybs.length ybc, .int .i64 yz, .slice yra yrs.length yrc] 63)).all hb1; have hY1 := hY.all hb1; have c4 := hX1.cell 4; have c5 := hX1.cell 5; have d4 := hY1.cell 4; have d5 := hY1.cell 5; have hb2 : Below w.heap.size w w1 := ((Below.refl w.heap.size w).alloc (Nat.le_refl _) (.cells #[.int .i64 xs, .int .i64 xa, .string xg, .slice xba xbs.length xbc, .int .i64 xz, .slice xra xrs.length xrc] 63) |>.alloc (by simp) (.cells #[.int .i64 ys, .int .i64 ya, .string yg, .slice yba ybs.length ybc, .int .i64 yz, .slice yra yrs.length yrc] 63)).trans (hb1.mono (by simp; omega))) | (go_at_call 57; refine (HR.out _ hb2).mono ?_; rintro e w2 ⟨rfl, hb3⟩)); (go_ret; refine ⟨ret_val (by rw [H.out]; rfl), ?_⟩; first | exact hb2.trans (hb3.mono hb2.size) | exact hb2 | (repeat' (first | exact Below.refl _ _ | assumption | refine Below.setCell ?_ (by first | omega | exact Below.size (by assumption) | (simp; done) | (simp; omega)) _ | refine Below.alloc ?_ (by first | omega | exact Below.size (by assumption) | (simp; done) | (simp; omega)) _ | refine Below.drew ?_ | refine below_drewN ?_ _))))
          · have t5 : (xz == yz) = false := beq_eq_false_iff_ne.2 h5
            have H := Lib.hid (same_no (x := ⟨xs, xa, xg, xbs, xz, xrs⟩) (y := ⟨ys, ya, yg, ybs, yz, yrs⟩) (fun h => h5 h.2.2.2.2.1))
            clear h1 h2 h3 h4 h5
            (go_enter Tryd.func71, Tryd.ntmps71; go_wp2_with (first | (go_at_call 72; refine (HB.out _ (by (repeat' (first | exact Below.refl _ _ | assumption | refine Below.setCell ?_ (by first | omega | exact Below.size (by assumption) | (simp; done) | (simp; omega)) _ | refine Below.alloc ?_ (by first | omega | exact Below.size (by assumption) | (simp; done) | (simp; omega)) _ | refine Below.drew ?_ | refine below_drewN ?_ _)))).mono ?_; rintro e w1 ⟨rfl, hb1⟩; have hX1 := (hX.alloc (.cells #[.int .i64 ys, .int .i64 ya, .string yg, .slice yba ybs.length ybc, .int .i64 yz, .slice yra yrs.length yrc] 63)).all hb1; have hY1 := hY.all hb1; have c4 := hX1.cell 4; have c5 := hX1.cell 5; have d4 := hY1.cell 4; have d5 := hY1.cell 5; have hb2 : Below w.heap.size w w1 := ((Below.refl w.heap.size w).alloc (Nat.le_refl _) (.cells #[.int .i64 xs, .int .i64 xa, .string xg, .slice xba xbs.length xbc, .int .i64 xz, .slice xra xrs.length xrc] 63) |>.alloc (by simp) (.cells #[.int .i64 ys, .int .i64 ya, .string yg, .slice yba ybs.length ybc, .int .i64 yz, .slice yra yrs.length yrc] 63)).trans (hb1.mono (by simp; omega))) | (go_at_call 57; refine (HR.out _ hb2).mono ?_; rintro e w2 ⟨rfl, hb3⟩)); (go_ret; refine ⟨ret_val (by rw [H.out]; rfl), ?_⟩; first | exact hb2.trans (hb3.mono hb2.size) | exact hb2 | (repeat' (first | exact Below.refl _ _ | assumption | refine Below.setCell ?_ (by first | omega | exact Below.size (by assumption) | (simp; done) | (simp; omega)) _ | refine Below.alloc ?_ (by first | omega | exact Below.size (by assumption) | (simp; done) | (simp; omega)) _ | refine Below.drew ?_ | refine below_drewN ?_ _))))
      · have t3 := toList_ne h3
        have H := Lib.hid (same_no (x := ⟨xs, xa, xg, xbs, xz, xrs⟩) (y := ⟨ys, ya, yg, ybs, yz, yrs⟩) (fun h => h3 h.2.2.1))
        clear h1 h2 h3
        (go_enter Tryd.func71, Tryd.ntmps71; go_wp2_with (first | (go_at_call 72; refine (HB.out _ (by (repeat' (first | exact Below.refl _ _ | assumption | refine Below.setCell ?_ (by first | omega | exact Below.size (by assumption) | (simp; done) | (simp; omega)) _ | refine Below.alloc ?_ (by first | omega | exact Below.size (by assumption) | (simp; done) | (simp; omega)) _ | refine Below.drew ?_ | refine below_drewN ?_ _)))).mono ?_; rintro e w1 ⟨rfl, hb1⟩; have hX1 := (hX.alloc (.cells #[.int .i64 ys, .int .i64 ya, .string yg, .slice yba ybs.length ybc, .int .i64 yz, .slice yra yrs.length yrc] 63)).all hb1; have hY1 := hY.all hb1; have c4 := hX1.cell 4; have c5 := hX1.cell 5; have d4 := hY1.cell 4; have d5 := hY1.cell 5; have hb2 : Below w.heap.size w w1 := ((Below.refl w.heap.size w).alloc (Nat.le_refl _) (.cells #[.int .i64 xs, .int .i64 xa, .string xg, .slice xba xbs.length xbc, .int .i64 xz, .slice xra xrs.length xrc] 63) |>.alloc (by simp) (.cells #[.int .i64 ys, .int .i64 ya, .string yg, .slice yba ybs.length ybc, .int .i64 yz, .slice yra yrs.length yrc] 63)).trans (hb1.mono (by simp; omega))) | (go_at_call 57; refine (HR.out _ hb2).mono ?_; rintro e w2 ⟨rfl, hb3⟩)); (go_ret; refine ⟨ret_val (by rw [H.out]; rfl), ?_⟩; first | exact hb2.trans (hb3.mono hb2.size) | exact hb2 | (repeat' (first | exact Below.refl _ _ | assumption | refine Below.setCell ?_ (by first | omega | exact Below.size (by assumption) | (simp; done) | (simp; omega)) _ | refine Below.alloc ?_ (by first | omega | exact Below.size (by assumption) | (simp; done) | (simp; omega)) _ | refine Below.drew ?_ | refine below_drewN ?_ _))))
    · have t2 : (xa == ya) = false := beq_eq_false_iff_ne.2 h2
      have H := Lib.hid (same_no (x := ⟨xs, xa, xg, xbs, xz, xrs⟩) (y := ⟨ys, ya, yg, ybs, yz, yrs⟩) (fun h => h2 h.2.1))
      clear h1 h2
      (go_enter Tryd.func71, Tryd.ntmps71; go_wp2_with (first | (go_at_call 72; refine (HB.out _ (by (repeat' (first | exact Below.refl _ _ | assumption | refine Below.setCell ?_ (by first | omega | exact Below.size (by assumption) | (simp; done) | (simp; omega)) _ | refine Below.alloc ?_ (by first | omega | exact Below.size (by assumption) | (simp; done) | (simp; omega)) _ | refine Below.drew ?_ | refine below_drewN ?_ _)))).mono ?_; rintro e w1 ⟨rfl, hb1⟩; have hX1 := (hX.alloc (.cells #[.int .i64 ys, .int .i64 ya, .string yg, .slice yba ybs.length ybc, .int .i64 yz, .slice yra yrs.length yrc] 63)).all hb1; have hY1 := hY.all hb1; have c4 := hX1.cell 4; have c5 := hX1.cell 5; have d4 := hY1.cell 4; have d5 := hY1.cell 5; have hb2 : Below w.heap.size w w1 := ((Below.refl w.heap.size w).alloc (Nat.le_refl _) (.cells #[.int .i64 xs, .int .i64 xa, .string xg, .slice xba xbs.length xbc, .int .i64 xz, .slice xra xrs.length xrc] 63) |>.alloc (by simp) (.cells #[.int .i64 ys, .int .i64 ya, .string yg, .slice yba ybs.length ybc, .int .i64 yz, .slice yra yrs.length yrc] 63)).trans (hb1.mono (by simp; omega))) | (go_at_call 57; refine (HR.out _ hb2).mono ?_; rintro e w2 ⟨rfl, hb3⟩)); (go_ret; refine ⟨ret_val (by rw [H.out]; rfl), ?_⟩; first | exact hb2.trans (hb3.mono hb2.size) | exact hb2 | (repeat' (first | exact Below.refl _ _ | assumption | refine Below.setCell ?_ (by first | omega | exact Below.size (by assumption) | (simp; done) | (simp; omega)) _ | refine Below.alloc ?_ (by first | omega | exact Below.size (by assumption) | (simp; done) | (simp; omega)) _ | refine Below.drew ?_ | refine below_drewN ?_ _))))
  · have t1 : (xs == ys) = false := beq_eq_false_iff_ne.2 h1
    have H := Lib.hid (same_no (x := ⟨xs, xa, xg, xbs, xz, xrs⟩) (y := ⟨ys, ya, yg, ybs, yz, yrs⟩) (fun h => h1 h.1))
    clear h1
    (go_enter Tryd.func71, Tryd.ntmps71; go_wp2_with (first | (go_at_call 72; refine (HB.out _ (by (repeat' (first | exact Below.refl _ _ | assumption | refine Below.setCell ?_ (by first | omega | exact Below.size (by assumption) | (simp; done) | (simp; omega)) _ | refine Below.alloc ?_ (by first | omega | exact Below.size (by assumption) | (simp; done) | (simp; omega)) _ | refine Below.drew ?_ | refine below_drewN ?_ _)))).mono ?_; rintro e w1 ⟨rfl, hb1⟩; have hX1 := (hX.alloc (.cells #[.int .i64 ys, .int .i64 ya, .string yg, .slice yba ybs.length ybc, .int .i64 yz, .slice yra yrs.length yrc] 63)).all hb1; have hY1 := hY.all hb1; have c4 := hX1.cell 4; have c5 := hX1.cell 5; have d4 := hY1.cell 4; have d5 := hY1.cell 5; have hb2 : Below w.heap.size w w1 := ((Below.refl w.heap.size w).alloc (Nat.le_refl _) (.cells #[.int .i64 xs, .int .i64 xa, .string xg, .slice xba xbs.length xbc, .int .i64 xz, .slice xra xrs.length xrc] 63) |>.alloc (by simp) (.cells #[.int .i64 ys, .int .i64 ya, .string yg, .slice yba ybs.length ybc, .int .i64 yz, .slice yra yrs.length yrc] 63)).trans (hb1.mono (by simp; omega))) | (go_at_call 57; refine (HR.out _ hb2).mono ?_; rintro e w2 ⟨rfl, hb3⟩)); (go_ret; refine ⟨ret_val (by rw [H.out]; rfl), ?_⟩; first | exact hb2.trans (hb3.mono hb2.size) | exact hb2 | (repeat' (first | exact Below.refl _ _ | assumption | refine Below.setCell ?_ (by first | omega | exact Below.size (by assumption) | (simp; done) | (simp; omega)) _ | refine Below.alloc ?_ (by first | omega | exact Below.size (by assumption) | (simp; done) | (simp; omega)) _ | refine Below.drew ?_ | refine below_drewN ?_ _))))

def PtM.same (a b : PtM) : Bool := decide (a.er = b.er)
theorem frags_no {l l' : List FgM} {k : Nat} {x y : FgM} (hx : l[k]? = some x) (hy : l'[k]? = some y) (h : decide (x.f = y.f) = false) : decide (l.map FgM.f = l'.map FgM.f) = false := decide_eq_false fun e => by
  have := congrArg (fun l => l[k]?) e
  simp [hx, hy] at this
  simp [this] at h
set_option maxHeartbeats 1000000 in
theorem equalFrags_any (A A' : Option Addr) (c c' : Nat) (l l' : List FgM) (w : World) (h : Reads w w.heap.size 6 A l.length (fgsV l)) (h' : Reads w w.heap.size 6 A' l'.length (fgsV l')) (hm : l.length ≤ 9223372036854775807)
    (hg : ∀ x ∈ l, x.Good w w.heap.size) (hg' : ∀ x ∈ l', x.Good w w.heap.size) :
    Calls Tryd.prog 70 #[.slice A l.length c, .slice A' l'.length c', .func (.func 71) #[] #[]] w
      fun e w' => e = .returned (.bool (decide (l.map FgM.f = l'.map FgM.f))) ∧ Below w.heap.size w w' := by
  have G1 := Lib.hid hg
  have G2 := Lib.hid hg'
  clear hg hg'
  by_cases hlen : l.length = l'.length
  · have hne : ((l.length : Int) != (l'.length : Int)) = false := by rw [hlen]; simp
    have HL := Lib.hid hlen
    have l0 : l.length ≤ l'.length := by omega
    clear hlen
    go_enter Tryd.func70, Tryd.ntmps70
    go_wp2
    go_loopw [17] (fun i wr => ∃ k : Nat, k ≤ l.length ∧ i = .int .i64 k ∧ Hid ((l.take k).map FgM.f = (l'.take k).map FgM.f) ∧ Below w.heap.size w wr) (fun i _ => l.length - (intOf i).toNat)
    case atStart => exact ⟨0, Nat.zero_le _, rfl, Lib.hid (by simp), Below.refl _ _⟩
    case round =>
      obtain ⟨k, hk, rfl, htk, hb⟩ := hrel
      by_cases hlt : k < l.length
      · have hlt' : k < l'.length := by omega
        obtain ⟨x, hx⟩ : ∃ x, l[k]? = some x := ⟨_, List.getElem?_eq_getElem hlt⟩
        obtain ⟨y, hy⟩ : ∃ y, l'[k]? = some y := ⟨_, List.getElem?_eq_getElem hlt'⟩
        have hX := (G1.out x (List.mem_of_getElem? hx)).keep hb hb.size
        have hY := (G2.out y (List.mem_of_getElem? hy)).keep hb hb.size
        obtain ⟨b, off, rfl, bl, c0, c1, c2, c3, c4, c5⟩ := fg_get (h.below hb) hx
        obtain ⟨b', off', rfl, bl', d0, d1, d2, d3, d4, d5⟩ := fg_get ((h'.below hb).alloc hb.size (.cells #[.int .i64 x.f.sect, .int .i64 x.f.align, .string x.f.group, .slice x.ba x.f.bs.length x.bc, .int .i64 x.f.size, .slice x.ra x.f.rs.length x.rc] 63)) hy
        have bz := hb.size
        have z1 : b ≠ wr.heap.size := by omega
        have z2 : b' ≠ wr.heap.size := by omega
        have HX := Lib.hid hx
        have HY := Lib.hid hy
        have HT : Hid (x.f = y.f → (l.take (k + 1)).map FgM.f = (l'.take (k + 1)).map FgM.f) := fun e => by
          rw [List.take_add_one, List.take_add_one, hx, hy, List.map_append, List.map_append, htk.out]
          simp [e]
        clear hx hy
        go_wp2_with fail
        refine (same1_any x y _ ?_ ?_).mono ?_
        · exact hX.keep (by (repeat' (first | exact Below.refl _ _ | assumption | refine Below.setCell ?_ (by first | omega | exact Below.size (by assumption) | (simp; done) | (simp; omega)) _ | refine Below.alloc ?_ (by first | omega | exact Below.size (by assumption) | (simp; done) | (simp; omega)) _ | refine Below.drew ?_ | refine below_drewN ?_ _))) (by simp; omega)
        · exact hY.keep (by (repeat' (first | exact Below.refl _ _ | assumption | refine Below.setCell ?_ (by first | omega | exact Below.size (by assumption) | (simp; done) | (simp; omega)) _ | refine Below.alloc ?_ (by first | omega | exact Below.size (by assumption) | (simp; done) | (simp; omega)) _ | refine Below.drew ?_ | refine below_drewN ?_ _))) (by simp; omega)
        rintro e w1 ⟨rfl, hb1⟩
        have hB : Below w.heap.size w w1 := Below.trans (by (repeat' (first | exact Below.refl _ _ | assumption | refine Below.setCell ?_ (by first | omega | exact Below.size (by assumption) | (simp; done) | (simp; omega)) _ | refine Below.alloc ?_ (by first | omega | exact Below.size (by assumption) | (simp; done) | (simp; omega)) _ | refine Below.drew ?_ | refine below_drewN ?_ _))) (hb1.mono (by have := hb.size; simp; omega))
        clear hb1 c0 c1 c2 c3 c4 c5 d0 d1 d2 d3 d4 d5
        rcases hd : decide (x.f = y.f) with _ | _
        · have HN := Lib.hid (frags_no HX.out HY.out hd)
          clear hd
          go_wp2
          go_ret
          exact ⟨ret_val (by rw [HN.out]; rfl), hB⟩
        · have hd' := HT.out (of_decide_eq_true hd)
          replace hd' := Lib.hid hd'
          clear hd
          go_wp2
          go_roundw
          case rel => exact ⟨k + 1, by omega, by go_num, hd', hB⟩
          case measure => simp [intOf]; omega
      · have hk' : k = l.length := by omega
        have HT : Hid (l.map FgM.f = l'.map FgM.f) := by
          have := htk.out
          rw [hk', List.take_length] at this
          rw [HL.out, List.take_length] at this
          exact this
        go_wp2
        go_ret
        exact ⟨ret_val (by rw [decide_eq_true HT.out]; rfl), by (repeat' (first | exact Below.refl _ _ | assumption | refine Below.setCell ?_ (by first | omega | exact Below.size (by assumption) | (simp; done) | (simp; omega)) _ | refine Below.alloc ?_ (by first | omega | exact Below.size (by assumption) | (simp; done) | (simp; omega)) _ | refine Below.drew ?_ | refine below_drewN ?_ _))⟩
  · have hne : ((l.length : Int) != (l'.length : Int)) = true := by simp; omega
    have HL : Hid (decide (l.map FgM.f = l'.map FgM.f) = false) := decide_eq_false fun e => hlen (by have := congrArg List.length e; simpa using this)
    clear hlen
    go_enter Tryd.func70, Tryd.ntmps70
    go_wp2
    go_ret
    exact ⟨ret_val (by rw [HL.out]; rfl), Below.refl _ _⟩

theorem er_eq {a b : PtM} : a.er = b.er ↔ a.dfs = b.dfs ∧ a.frs.map FgM.f = b.frs.map FgM.f := by
  unfold PtM.er
  rw [Prt.mk.injEq]
  exact And.comm
set_option maxHeartbeats 1000000 in
theorem same_any (a b : PtM) (w : World) (ha : a.At w w.heap.size) (hb : b.At w w.heap.size) :
    Calls Tryd.prog 26 #[.agg #[.slice a.fa a.frs.length a.fc, .slice a.da a.dfs.length a.dc], .agg #[.slice b.fa b.frs.length b.fc, .slice b.da b.dfs.length b.dc]] w
      fun e w' => e = .returned (.bool (decide (a.er = b.er))) ∧ Below w.heap.size w w' := by
  obtain ⟨a1, a2, a3, a4, a5⟩ := ha
  obtain ⟨b1, b2, b3, b4, b5⟩ := hb
  have H := Lib.hid (er_eq (a := a) (b := b))
  obtain ⟨af, ad, afa, afc, ada, adc⟩ := a
  obtain ⟨bf, bd, bfa, bfc, bda, bdc⟩ := b
  simp only at *
  have hX := (Blk.new' w 25 #[.slice afa af.length afc, .slice ada ad.length adc] rfl).alloc (.cells #[.slice bfa bf.length bfc, .slice bda bd.length bdc] 25)
  have hY := Blk.new' (w.alloc (.cells #[.slice afa af.length afc, .slice ada ad.length adc] 25)) 25 #[.slice bfa bf.length bfc, .slice bda bd.length bdc] (show w.heap.size + 1 = _ by simp)
  have hb0 : Below w.heap.size w ((w.alloc (.cells #[.slice afa af.length afc, .slice ada ad.length adc] 25)).alloc (.cells #[.slice bfa bf.length bfc, .slice bda bd.length bdc] 25)) := by (repeat' (first | exact Below.refl _ _ | assumption | refine Below.setCell ?_ (by first | omega | exact Below.size (by assumption) | (simp; done) | (simp; omega)) _ | refine Below.alloc ?_ (by first | omega | exact Below.size (by assumption) | (simp; done) | (simp; omega)) _ | refine Below.drew ?_ | refine below_drewN ?_ _))
  have HD := Lib.hid (equalDefs_any ada bda adc bdc ad bd ((w.alloc (.cells #[.slice afa af.length afc, .slice ada ad.length adc] 25)).alloc (.cells #[.slice bfa bf.length bfc, .slice bda bd.length bdc] 25)) ((a3.below hb0).more hb0.size) ((b3.below hb0).more hb0.size) a5)
  have HF : Hid (∀ W, Below w.heap.size w W → Calls Tryd.prog 70 #[.slice afa af.length afc, .slice bfa bf.length bfc, .func (.func 71) #[] #[]] W
      fun e w' => e = .returned (.bool (decide (af.map FgM.f = bf.map FgM.f))) ∧ Below W.heap.size W w') :=
    fun W hW => equalFrags_any afa bfa afc bfc af bf W ((a1.below hW).more hW.size) ((b1.below hW).more hW.size) a4 (fun x hx => (a2 x hx).keep hW hW.size) (fun x hx => (b2 x hx).keep hW hW.size)
  clear a1 a2 a3 b1 b2 b3
  rcases h1 : (ad == bd) with _ | _
  · have HN : Hid (decide (PtM.er ⟨af, ad, afa, afc, ada, adc⟩ = PtM.er ⟨bf, bd, bfa, bfc, bda, bdc⟩) = false) := decide_eq_false fun e => by
      have := (H.out.1 e).1
      rw [this] at h1
      simp at h1
    rw [h1] at HD
    clear h1 H
    go_enter Tryd.func26, Tryd.ntmps26
    go_wp2_with fail
    refine HD.out.mono ?_
    rintro e w1 ⟨rfl, hb1⟩
    go_wp2
    go_ret
    exact ⟨ret_val (by rw [HN.out]; rfl), hb0.trans (hb1.mono hb0.size)⟩
  · have HN : Hid (decide (PtM.er ⟨af, ad, afa, afc, ada, adc⟩ = PtM.er ⟨bf, bd, bfa, bfc, bda, bdc⟩) = decide (af.map FgM.f = bf.map FgM.f)) := by
      show _ = _
      rw [Bool.eq_iff_iff, decide_eq_true_iff, decide_eq_true_iff]
      exact ⟨fun e => (H.out.1 e).2, fun e => H.out.2 ⟨by simpa using h1, e⟩⟩
    rw [h1] at HD
    clear h1 H
    go_enter Tryd.func26, Tryd.ntmps26
    go_wp2_with fail
    refine HD.out.mono ?_
    rintro e w1 ⟨rfl, hb1⟩
    have c0 := (hX.all hb1).cell 0
    have d0 := (hY.all hb1).cell 0
    have hB : Below w.heap.size w w1 := hb0.trans (hb1.mono hb0.size)
    clear hb1
    go_wp2_with fail
    refine (HF.out _ hB).mono ?_
    rintro e w2 ⟨rfl, hb2⟩
    go_wp2
    go_ret
    exact ⟨ret_val (by rw [HN.out]; rfl), hB.trans (hb2.mono hB.size)⟩
end Go.Proofs.YtmlomnhjbmocfaaDoor
