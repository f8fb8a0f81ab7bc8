/- plan.Check: what it computes. -/
import Derived.Test.YtkkjfjbkhafaiaaPlanW
import Derived.Test.YtkkjfjbkhafaiaaMakeN
namespace Go.Proofs.Ytkkjfjbkhafaiaa
open Go.RowKit

theorem make_ints (n : Nat) (hn : n ≤ 1000000) (w : World) :
    (Instr.makeSlice 45 (.int .i64 (n : Int)) (.int .i64 (n : Int))).run Try.prog w = .ok (.slice (some ⟨w.heap.size, 0, none⟩) n n) (w.alloc (.cells (cntCells n fun _ => 0) 3)) := by
  obtain ⟨i0, hi, hz0, hz1, hz2⟩ := info_parts Try.infoInt
  exact run_make_one 45 3 i0 (.int .i64 0) Try.underlying45 hi hz0 hz1 rfl 8 hz2 n hn (by omega) w

set_option maxHeartbeats 2000000 in
set_option maxRecDepth 100000 in
theorem planCheck_any (A : Option Addr) (c : Nat) (l : List Nd) (parts : Int) (w : World) (h : Reads w w.heap.size 3 A l.length (ndCells l)) (hm : l.length ≤ 9223372036854775807) :
    Calls Try.prog 17 #[.slice A l.length c, .int .i64 parts] w fun e w' => e = .returned (.int .i64 (ckPlan l parts)) ∧ Below w.heap.size w w' := by
  by_cases hr : parts < 1 ∨ 12 < parts
  · have HR := Lib.hid (ckPlan_range (l := l) hr)
    go_enter Try.func17, Try.ntmps17
    go_wp2
    all_goals first
      | (go_ret; exact ⟨ret_int HR.out.symm, Below.refl _ _⟩)
      | (exfalso; omega)
  · have HR := Lib.hid hr
    have r0 : 1 ≤ parts := by omega
    have r1 : parts ≤ 12 := by omega
    have g1 : decide (parts < 1) = false := by simp; omega
    have g2 : decide (12 < parts) = false := by simp; omega
    clear hr
    by_cases h23 : 23 < l.length
    · have HM := Lib.hid (ckPlan_many HR.out (by omega : 23 < (l.length : Int)))
      go_enter Try.func17, Try.ntmps17
      go_wp2
      go_ret
      exact ⟨ret_int HM.out.symm, Below.refl _ _⟩
    · by_cases hz : l.length = 0
      · have HM := Lib.hid (ckPlan_none (l := l) HR.out hz)
        have hz' : ((l.length : Int) == 0) = true := beq_iff_eq.2 (by omega)
        have hz'' : l.length ≤ 0 := by omega
        clear hz
        go_enter Try.func17, Try.ntmps17
        go_wp2
        go_ret
        exact ⟨ret_int HM.out.symm, Below.refl _ _⟩
      · have HZ := Lib.hid hz
        have HT := Lib.hid (by omega : l.length ≤ 23)
        have hz' : ((l.length : Int) == 0) = false := beq_eq_false_iff_ne.2 (by omega)
        have hz'' : 1 ≤ l.length := by omega
        have hmk := make_ints l.length (by omega)
        have hm' : l.length ≤ 23 := by omega
        clear hz h23
        go_enter Try.func17, Try.ntmps17
        go_wp2
        go_loopw [29] (fun i wr => ∃ k : Nat, k ≤ l.length ∧ i = .int .i64 k ∧ Hid (∀ j x, j < k → l[j]? = some x → ¬ x.bad j parts) ∧ Blk wr w.heap.size 3 (cntCells l.length (refs (l.take k))) ∧ Below w.heap.size w wr ∧ w.heap.size < wr.heap.size) (fun i _ => l.length - (intOf i).toNat)
        case atStart => exact ⟨0, Nat.zero_le _, rfl, Lib.hid (fun j x hj => absurd hj (by omega)), Blk.new' w _ _ rfl, (Below.refl _ _).alloc (Nat.le_refl _) _, by simp⟩
        case round =>
          obtain ⟨k, hk, rfl, hgood, hblk, hb, hsz⟩ := hrel
          by_cases hlt : k < l.length
          · obtain ⟨x, hx⟩ : ∃ x, l[k]? = some x := ⟨_, List.getElem?_eq_getElem hlt⟩
            obtain ⟨b, off, rfl, hb', c0, c1, c2⟩ := nd_cells (h.below hb) hx
            have HX := Lib.hid hx
            clear hx
            have hgood' : ¬ x.bad k parts → Hid (∀ j y, j < k + 1 → l[j]? = some y → ¬ y.bad j parts) := fun hn j y hj hy => by
              rcases Nat.lt_or_ge j k with hjk | hjk
              · exact hgood.out j y hjk hy
              · obtain rfl : j = k := by omega
                rw [HX.out] at hy; cases hy; exact hn
            have hstep : ∀ j, refs (l.take (k + 1)) j = refs (l.take k) j + x.cnt j := refs_step HX.out
            by_cases h0 : 0 ≤ x.leaf
            · go_wp2
              all_goals first
                | (go_ret; exact ⟨ret_int (ckPlan_bad HR.out HT.out HZ.out HX.out (Nd.bad_leaf h0 (by first | (left; omega) | (right; simp_all)))).symm, by (repeat' (first | exact Below.refl _ _ | assumption | refine Below.setCell ?_ (by first | omega | exact Below.size (by assumption) | (simp; done) | (simp; omega)) _ | refine Below.alloc ?_ (by first | omega | exact Below.size (by assumption) | (simp; done) | (simp; omega)) _ | refine Below.drew ?_ | refine below_drewN ?_ _))⟩)
                | skip
              go_roundw
              case rel =>
                refine ⟨k + 1, by omega, by go_num, hgood' (Nd.good_leaf h0 (by omega) (by simp_all) (by simp_all)), ?_, by (repeat' (first | exact Below.refl _ _ | assumption | refine Below.setCell ?_ (by first | omega | exact Below.size (by assumption) | (simp; done) | (simp; omega)) _ | refine Below.alloc ?_ (by first | omega | exact Below.size (by assumption) | (simp; done) | (simp; omega)) _ | refine Below.drew ?_ | refine below_drewN ?_ _)), by simp; omega⟩
                have : refs (l.take (k + 1)) = refs (l.take k) := by
                  funext j; rw [hstep]; unfold Nd.cnt; rw [if_pos h0]; omega
                rw [this]
                exact hblk.alloc _
              case measure => simp [intOf]; omega
            · by_cases hL : x.leaf = -1 ∧ 0 ≤ x.left ∧ x.left < k ∧ 0 ≤ x.right ∧ x.right < k
              · obtain ⟨l0, l1, l2, l3, l4⟩ := hL
                obtain ⟨a, ha⟩ : ∃ a : Nat, x.left = a := ⟨x.left.toNat, by omega⟩
                obtain ⟨d, hd⟩ : ∃ d : Nat, x.right = d := ⟨x.right.toNat, by omega⟩
                have hG := hgood' (Nd.good_node l0 l1 l2 l3 l4)
                have hC : ∀ j, x.cnt j = (if j = a then 1 else 0) + (if j = d then 1 else 0) := by
                  intro j; unfold Nd.cnt; rw [if_neg h0, ha, hd]
                  have e1 : ((a : Int) = (j : Int)) = (j = a) := by apply propext; omega
                  have e2 : ((d : Int) = (j : Int)) = (j = d) := by apply propext; omega
                  simp only [e1, e2]
                have q1 : a < k := by omega
                have q2 : d < k := by omega
                rw [l0] at c0
                rw [ha] at c1
                rw [hd] at c2
                have hra := refs_bounds (l.take k) a
                have hrd := refs_bounds (l.take k) d
                have htk : (l.take k).length ≤ 23 := by simp; omega
                have B1 : refs (l.take k) a ≤ 46 := by omega
                have B2 : refs (l.take k) d ≤ 46 := by omega
                have B3 := hra.1
                have B4 := hrd.1
                have hS1 : ∀ j, (fun j => if j = a then refs (l.take k) a + 1 else refs (l.take k) j) j = if j = a then refs (l.take k) a + 1 else refs (l.take k) j := fun _ => rfl
                have blk1 := hblk.set_ a (.int .i64 (refs (l.take k) a + 1))
                rw [cntCells_set hS1] at blk1
                have d1 := hblk.cell a
                have f1 := hblk.frozen a
                have d2 := blk1.cell d
                have f2 := blk1.frozen d
                have blk2 := blk1.set_ d (.int .i64 ((fun j => if j = a then refs (l.take k) a + 1 else refs (l.take k) j) d + 1))
                rw [cntCells_set (f' := refs (l.take (k + 1))) (fun j => by
                  simp only [hstep, hC]
                  repeat' split
                  all_goals first | omega | (subst_vars; omega))] at blk2
                rw [cntCells_get (by omega)] at d1 d2
                dsimp only at blk2
                obtain ⟨rd, hrd'⟩ : ∃ rd, (if d = a then refs (l.take k) a + 1 else refs (l.take k) d) = rd := ⟨_, rfl⟩
                rw [hrd'] at d2 blk2
                have B5 : 0 ≤ rd ∧ rd ≤ 47 := by
                  rw [← hrd']; split <;> omega
                have B6 := B5.1
                have B7 := B5.2
                clear hrd' blk1 hblk B5 hC hstep
                clear hra hrd htk l0 l1 l2 l3 l4 ha hd h0 hgood hgood' hS1
                go_wp2
                go_roundw
                case rel => exact ⟨k + 1, by omega, by go_num, hG, blk2.alloc _, by (repeat' (first | exact Below.refl _ _ | assumption | refine Below.setCell ?_ (by first | omega | exact Below.size (by assumption) | (simp; done) | (simp; omega)) _ | refine Below.alloc ?_ (by first | omega | exact Below.size (by assumption) | (simp; done) | (simp; omega)) _ | refine Below.drew ?_ | refine below_drewN ?_ _)), by simp; omega⟩
                case measure => simp [intOf]; omega
              · go_wp2
                all_goals first
                  | (go_ret; exact ⟨ret_int (ckPlan_bad HR.out HT.out HZ.out HX.out (Nd.bad_node (by omega) (by first | omega | (left; simp_all)))).symm, by (repeat' (first | exact Below.refl _ _ | assumption | refine Below.setCell ?_ (by first | omega | exact Below.size (by assumption) | (simp; done) | (simp; omega)) _ | refine Below.alloc ?_ (by first | omega | exact Below.size (by assumption) | (simp; done) | (simp; omega)) _ | refine Below.drew ?_ | refine below_drewN ?_ _))⟩)
                  | (exfalso; omega)
                  | (exfalso; simp_all; omega)
          · obtain rfl : k = l.length := by omega
            rw [List.take_length] at hblk
            have hF := Lib.hid (show Falls l parts from fun j x hx => hgood.out j x (List.getElem?_eq_some_iff.1 hx).1 hx)
            clear hgood hlt hk
            go_wp2
            go_loopw [93] (fun i wr => ∃ k : Nat, k ≤ l.length ∧ i = .int .i64 k ∧ Hid (∀ j, j < k → refs l j = (if j + 1 < l.length then 1 else 0)) ∧ Blk wr w.heap.size 3 (cntCells l.length (refs l)) ∧ Below w.heap.size w wr ∧ w.heap.size < wr.heap.size) (fun i _ => l.length - (intOf i).toNat)
            case atStart => exact ⟨0, Nat.zero_le _, rfl, Lib.hid (fun j hj => absurd hj (by omega)), hblk, hb, hsz⟩
            case round =>
              clear hblk hb hsz
              obtain ⟨k, hk, rfl, hall, hblk, hb, hsz⟩ := hrel
              by_cases hlt : k < l.length
              · have d1 := hblk.cell k
                rw [cntCells_get hlt] at d1
                obtain ⟨n, hn⟩ : ∃ n, refs l k = n := ⟨_, rfl⟩
                have hn0 := (refs_bounds l k).1
                have HN := Lib.hid hn
                rw [hn] at d1 hn0
                clear hn
                by_cases hg : n = (if k + 1 < l.length then 1 else 0)
                · have hall' : Hid (∀ j, j < k + 1 → refs l j = (if j + 1 < l.length then 1 else 0)) := fun j hj => by
                    rcases Nat.lt_or_ge j k with hjk | hjk
                    · exact hall.out j hjk
                    · obtain rfl : j = k := by omega
                      rw [HN.out, hg]
                  clear hall
                  by_cases hk1 : k + 1 < l.length
                  · rw [if_pos hk1] at hg
                    subst hg
                    have g3 : decide ((k : Int) < (l.length : Int) - 1) = true := decide_eq_true (by omega)
                    go_wp2
                    go_roundw
                    case rel => exact ⟨k + 1, by omega, by go_num, hall', hblk, hb, hsz⟩
                    case measure => simp [intOf]; omega
                  · rw [if_neg hk1] at hg
                    subst hg
                    have g3 : decide ((k : Int) < (l.length : Int) - 1) = false := decide_eq_false (by omega)
                    go_wp2
                    go_roundw
                    case rel => exact ⟨k + 1, by omega, by go_num, hall', hblk, hb, hsz⟩
                    case measure => simp [intOf]; omega
                · have HB := Lib.hid (ckPlan_form HR.out HT.out HZ.out hF.out hlt (by rw [HN.out]; exact hg))
                  by_cases hn1 : n = 1
                  · subst hn1
                    have hk1 : ¬ k + 1 < l.length := fun hk1 => hg (by rw [if_pos hk1])
                    clear hg
                    have g3 : decide ((k : Int) < (l.length : Int) - 1) = false := decide_eq_false (by omega)
                    go_wp2
                    go_ret
                    exact ⟨ret_int HB.out.symm, hb⟩
                  · have hne : (n == 1) = false := beq_eq_false_iff_ne.2 hn1
                    by_cases hk1 : k + 1 < l.length
                    · clear hg
                      have g3 : decide ((k : Int) < (l.length : Int) - 1) = true := decide_eq_true (by omega)
                      go_wp2
                      go_ret
                      exact ⟨ret_int HB.out.symm, hb⟩
                    · rw [if_neg hk1] at hg
                      have hn2 : 1 < n := by omega
                      clear hg hn1
                      have g3 : decide ((k : Int) < (l.length : Int) - 1) = false := decide_eq_false (by omega)
                      go_wp2
                      go_ret
                      exact ⟨ret_int HB.out.symm, hb⟩
              · obtain rfl : k = l.length := by omega
                have hz3 : ((l.length : Int) - 1) = ((l.length - 1 : Nat) : Int) := by omega
                clear hblk
                go_wp2_with fail
                refine (leaves_any A c l parts hF.out (by omega) hm' (l.length - 1) wr ((h.below hb).more (by omega)) (by omega)).mono ?_
                rintro e w2 ⟨rfl, hb2⟩
                have hbb := hb.trans (hb2.mono (by omega))
                obtain ⟨p, hp⟩ : ∃ p, leavesS l (l.length - 1) = p := ⟨_, rfl⟩
                obtain ⟨p1, p2⟩ := p
                have HP := Lib.hid hp
                rw [hp]
                clear hp hb hb2
                by_cases h1 : p1 = 0
                · subst h1
                  by_cases h2 : p2 = parts
                  · have HB := Lib.hid (ckPlan_ok HR.out HT.out HZ.out hF.out hall.out (by rw [HP.out, h2]))
                    have h2' : (p2 != parts) = false := by simpa using h2
                    clear h2
                    go_wp2
                    go_ret
                    exact ⟨ret_int HB.out.symm, hbb⟩
                  · have HB := Lib.hid (ckPlan_leaves HR.out HT.out HZ.out hF.out hall.out (by rw [HP.out]; simpa using h2))
                    have h2' : (p2 != parts) = true := by simpa using h2
                    clear h2
                    go_wp2
                    go_ret
                    exact ⟨ret_int HB.out.symm, hbb⟩
                · have HB := Lib.hid (ckPlan_leaves HR.out HT.out HZ.out hF.out hall.out (by rw [HP.out]; simp; intro e; exact absurd e h1))
                  have h1' : (p1 != 0) = true := by simpa using h1
                  clear h1
                  go_wp2
                  go_ret
                  exact ⟨ret_int HB.out.symm, hbb⟩
end Go.Proofs.Ytkkjfjbkhafaiaa
