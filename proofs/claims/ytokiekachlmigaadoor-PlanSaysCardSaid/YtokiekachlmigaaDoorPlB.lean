/- PlB: texts that belong together. -/
import Derived.Test.YtokiekachlmigaaDoorBA
import Derived.Test.YtokiekachlmigaaDoorMakeN
import Derived.Test.YtokiekachlmigaaDoorWalk
set_option linter.all false
/- plan.leaves, plan.Check: what they compute. -/
namespace Go.Proofs.YtokiekachlmigaaDoor
open Go.RowKit

theorem nd_cells {w : World} {B : Nat} {A : Option Addr} {l : List Nd} (h : Reads w B 3 A l.length (ndCells l)) {k : Nat} {x : Nd} (hx : l[k]? = some x) :
    ∃ b off, A = some ⟨b, off, none⟩ ∧ b < B ∧ w.cell? ⟨b, off + k * 3, none⟩ = some (.int .i64 x.leaf) ∧ w.cell? ⟨b, off + k * 3 + 1, none⟩ = some (.int .i64 x.left) ∧ w.cell? ⟨b, off + k * 3 + 2, none⟩ = some (.int .i64 x.right) := by
  obtain ⟨hk, _⟩ := List.getElem?_eq_some_iff.1 hx
  obtain ⟨b, off, e, hb, hc⟩ := h.2 (by omega)
  refine ⟨b, off, e, hb, ?_, ?_, ?_⟩
  · exact hc (k * 3 + 0) _ ((ndCells_at hx 0 (by omega)).trans rfl)
  · rw [Nat.add_assoc]; exact hc (k * 3 + 1) _ ((ndCells_at hx 1 (by omega)).trans rfl)
  · rw [Nat.add_assoc]; exact hc (k * 3 + 2) _ ((ndCells_at hx 2 (by omega)).trans rfl)

set_option maxHeartbeats 1000000 in
theorem leaves_any (A : Option Addr) (c : Nat) (l : List Nd) (parts : Int) (hf : Falls l parts) (hp : parts ≤ 1000) (hm : l.length ≤ 23) : ∀ (i : Nat) (w : World), Reads w w.heap.size 3 A l.length (ndCells l) → i < l.length →
    Calls Tryd.prog 89 #[.slice A l.length c, .int .i64 i] w fun e w' => e = .returned (.tuple #[.int .i64 (leavesS l i).1, .int .i64 (leavesS l i).2]) ∧ Below w.heap.size w w' := by
  intro i
  induction i using Nat.strongRecOn with
  | _ i ih =>
    intro w h hi
    obtain ⟨x, hx⟩ : ∃ x, l[i]? = some x := ⟨_, List.getElem?_eq_getElem hi⟩
    obtain ⟨b, off, rfl, hb, c0, c1, c2⟩ := nd_cells h hx
    have hbad := hf i x hx
    have B := leavesS_bounds hf hp
    by_cases h0 : 0 ≤ x.leaf
    · have HL := Lib.hid (leavesS_leaf hx h0)
      clear hbad hx B
      go_enter Tryd.func89, Tryd.ntmps89
      go_wp2
      go_ret2
      rw [HL.out]
      exact ⟨rfl, by (repeat' (first | exact Below.refl _ _ | assumption | refine Below.setCell ?_ (by first | omega | exact Below.size (by assumption) | (simp; done) | (simp; omega)) _ | refine Below.alloc ?_ (by first | omega | exact Below.size (by assumption) | (simp; done) | (simp; omega)) _ | refine Below.drew ?_ | refine below_drewN ?_ _))⟩
    · unfold Nd.bad at hbad
      rw [if_neg h0] at hbad
      obtain ⟨a, ha⟩ : ∃ a : Nat, x.left = a := ⟨x.left.toNat, by omega⟩
      obtain ⟨d, hd⟩ : ∃ d : Nat, x.right = d := ⟨x.right.toNat, by omega⟩
      have h1 : a < i := by omega
      have h2 : d < i := by omega
      have h3 : decide (0 ≤ x.leaf) = false := by simpa using h0
      have HL := Lib.hid (leavesS_node hx (by omega) ha hd h1 h2)
      have Ba := B a (by omega)
      have Bd := B d (by omega)
      have pa : (2 : Int) ^ a ≤ 2 ^ 23 := by exact_mod_cast Nat.pow_le_pow_right (by omega) (by omega : a ≤ 23)
      have pd : (2 : Int) ^ d ≤ 2 ^ 23 := by exact_mod_cast Nat.pow_le_pow_right (by omega) (by omega : d ≤ 23)
      rw [ha] at c1
      rw [hd] at c2
      obtain ⟨p, hp'⟩ : ∃ p, leavesS l a = p := ⟨_, rfl⟩
      obtain ⟨q, hq⟩ : ∃ q, leavesS l d = q := ⟨_, rfl⟩
      obtain ⟨p1, p2⟩ := p
      obtain ⟨q1, q2⟩ := q
      have IA := fun w => ih a h1 w
      have ID := fun w => ih d h2 w
      rw [hp'] at IA Ba
      rw [hq] at ID Bd
      have e1 : -1 ≤ p1 := Ba.1
      have e2 : p1 ≤ 1000 := Ba.2.1
      have e3 : 0 ≤ p2 := Ba.2.2.1
      have e4 : p2 ≤ 8388608 := Int.le_trans Ba.2.2.2 pa
      have e5 : -1 ≤ q1 := Bd.1
      have e6 : q1 ≤ 1000 := Bd.2.1
      have e7 : 0 ≤ q2 := Bd.2.2.1
      have e8 : q2 ≤ 8388608 := Int.le_trans Bd.2.2.2 pd
      have HP := Lib.hid hp'
      have HQ := Lib.hid hq
      clear hbad hx ha hd ih B Ba Bd pa pd hp' hq h0
      go_enter Tryd.func89, Tryd.ntmps89
      go_wp2_with fail
      have hN := Blk.new' w 80 #[.int .i64 x.leaf, .int .i64 a, .int .i64 d] rfl
      refine (IA _ ((h.alloc (Nat.le_refl _) _).more (by simp)) (by omega)).mono ?_
      rintro e w1 ⟨rfl, hb1⟩
      have hN1 := hN.all hb1
      have h1' := ((h.alloc (Nat.le_refl _) _).more (by simp)).below hb1 |>.more hb1.size
      have hw1 : Below w.heap.size w w1 := ((Below.refl _ w).alloc (Nat.le_refl _) _).trans (hb1.mono (by simp))
      have m0 := hN1.cell 0
      have m1 := hN1.cell 1
      have m2 := hN1.cell 2
      clear hb1
      go_wp2_with fail
      refine (ID _ h1' (by omega)).mono ?_
      rintro e w2 ⟨rfl, hb2⟩
      have hw2 : Below w.heap.size w w2 := hw1.trans (hb2.mono hw1.size)
      clear hb2 hw1 h1' hN hN1 m0 m1 m2 IA ID h c0 c1 c2
      go_wp2
      all_goals
        go_ret2
        refine ⟨?_, hw2⟩
        rw [HL.out, HP.out, HQ.out]
        first
          | (rw [if_pos (by simp only; omega)]; rfl)
          | (have h9 : ¬ p1 + p2 = q1 := (by assumption); rw [if_pos (by simp only; omega)]; rfl)
          | (have h9 : p1 + p2 ≠ q1 := by simpa using (by assumption : (p1 + p2 != q1) = true)
             rw [if_pos (by simp only; omega)]; rfl)
          | (have h9 : p1 + p2 = q1 := by simpa using (by assumption : (p1 + p2 != q1) = false)
             rw [if_neg (by simp only; omega)]; rfl)
          | (have h9 : p1 + p2 = q1 := by simpa using (by assumption : ¬ (p1 + p2 != q1) = true)
             rw [if_neg (by simp only; omega)]; rfl)
end Go.Proofs.YtokiekachlmigaaDoor

/- plan.Check: what it computes. -/
namespace Go.Proofs.YtokiekachlmigaaDoor
open Go.RowKit

theorem make_ints (n : Nat) (hn : n ≤ 1000000) (w : World) :
    (Instr.makeSlice 47 (.int .i64 (n : Int)) (.int .i64 (n : Int))).run Tryd.prog w = .ok (.slice (some ⟨w.heap.size, 0, none⟩) n n) (w.alloc (.cells (cntCells n fun _ => 0) 3)) := by
  obtain ⟨i0, hi, hz0, hz1, hz2⟩ := info_parts Tryd.infoInt
  exact run_make_one 47 3 i0 (.int .i64 0) Tryd.underlying47 hi hz0 hz1 rfl 8 hz2 n hn (by omega) w

set_option maxHeartbeats 2000000 in
set_option maxRecDepth 100000 in
theorem planCheck_any (A : Option Addr) (c : Nat) (l : List Nd) (parts : Int) (w : World) (h : Reads w w.heap.size 3 A l.length (ndCells l)) (hm : l.length ≤ 9223372036854775807) :
    Calls Tryd.prog 44 #[.slice A l.length c, .int .i64 parts] w fun e w' => e = .returned (.int .i64 (ckPlan l parts)) ∧ Below w.heap.size w w' := by
  by_cases hr : parts < 1 ∨ 12 < parts
  · have HR := Lib.hid (ckPlan_range (l := l) hr)
    go_enter Tryd.func44, Tryd.ntmps44
    go_wp2
    all_goals first
      | (go_ret; exact ⟨ret_int HR.out.symm, Below.refl _ _⟩)
      | (exfalso; omega)
  · have HR := Lib.hid hr
    have r0 : 1 ≤ parts := by omega
    have r1 : parts ≤ 12 := by omega
    have g1 : decide (parts < 1) = false := by simp; omega
    have g2 : decide (12 < parts) = false := by simp; omega
    clear hr
    by_cases h23 : 23 < l.length
    · have HM := Lib.hid (ckPlan_many HR.out (by omega : 23 < (l.length : Int)))
      go_enter Tryd.func44, Tryd.ntmps44
      go_wp2
      go_ret
      exact ⟨ret_int HM.out.symm, Below.refl _ _⟩
    · by_cases hz : l.length = 0
      · have HM := Lib.hid (ckPlan_none (l := l) HR.out hz)
        have hz' : ((l.length : Int) == 0) = true := beq_iff_eq.2 (by omega)
        have hz'' : l.length ≤ 0 := by omega
        clear hz
        go_enter Tryd.func44, Tryd.ntmps44
        go_wp2
        go_ret
        exact ⟨ret_int HM.out.symm, Below.refl _ _⟩
      · have HZ := Lib.hid hz
        have HT := Lib.hid (by omega : l.length ≤ 23)
        have hz' : ((l.length : Int) == 0) = false := beq_eq_false_iff_ne.2 (by omega)
        have hz'' : 1 ≤ l.length := by omega
        have hmk := make_ints l.length (by omega)
        have hm' : l.length ≤ 23 := by omega
        clear hz h23
        go_enter Tryd.func44, Tryd.ntmps44
        go_wp2
        go_loopw [29] (fun i wr => ∃ k : Nat, k ≤ l.length ∧ i = .int .i64 k ∧ Hid (∀ j x, j < k → l[j]? = some x → ¬ x.bad j parts) ∧ Blk wr w.heap.size 3 (cntCells l.length (refs (l.take k))) ∧ Below w.heap.size w wr ∧ w.heap.size < wr.heap.size) (fun i _ => l.length - (intOf i).toNat)
        case atStart => exact ⟨0, Nat.zero_le _, rfl, Lib.hid (fun j x hj => absurd hj (by omega)), Blk.new' w _ _ rfl, (Below.refl _ _).alloc (Nat.le_refl _) _, by simp⟩
        case round =>
          obtain ⟨k, hk, rfl, hgood, hblk, hb, hsz⟩ := hrel
          by_cases hlt : k < l.length
          · obtain ⟨x, hx⟩ : ∃ x, l[k]? = some x := ⟨_, List.getElem?_eq_getElem hlt⟩
            obtain ⟨b, off, rfl, hb', c0, c1, c2⟩ := nd_cells (h.below hb) hx
            have HX := Lib.hid hx
            clear hx
            have hgood' : ¬ x.bad k parts → Hid (∀ j y, j < k + 1 → l[j]? = some y → ¬ y.bad j parts) := fun hn j y hj hy => by
              rcases Nat.lt_or_ge j k with hjk | hjk
              · exact hgood.out j y hjk hy
              · obtain rfl : j = k := by omega
                rw [HX.out] at hy; cases hy; exact hn
            have hstep : ∀ j, refs (l.take (k + 1)) j = refs (l.take k) j + x.cnt j := refs_step HX.out
            by_cases h0 : 0 ≤ x.leaf
            · go_wp2
              all_goals first
                | (go_ret; exact ⟨ret_int (ckPlan_bad HR.out HT.out HZ.out HX.out (Nd.bad_leaf h0 (by first | (left; omega) | (right; simp_all)))).symm, by (repeat' (first | exact Below.refl _ _ | assumption | refine Below.setCell ?_ (by first | omega | exact Below.size (by assumption) | (simp; done) | (simp; omega)) _ | refine Below.alloc ?_ (by first | omega | exact Below.size (by assumption) | (simp; done) | (simp; omega)) _ | refine Below.drew ?_ | refine below_drewN ?_ _))⟩)
                | skip
              go_roundw
              case rel =>
                refine ⟨k + 1, by omega, by go_num, hgood' (Nd.good_leaf h0 (by omega) (by simp_all) (by simp_all)), ?_, by (repeat' (first | exact Below.refl _ _ | assumption | refine Below.setCell ?_ (by first | omega | exact Below.size (by assumption) | (simp; done) | (simp; omega)) _ | refine Below.alloc ?_ (by first | omega | exact Below.size (by assumption) | (simp; done) | (simp; omega)) _ | refine Below.drew ?_ | refine below_drewN ?_ _)), by simp; omega⟩
                have : refs (l.take (k + 1)) = refs (l.take k) := by
                  funext j; rw [hstep]; unfold Nd.cnt; rw [if_pos h0]; omega
                rw [this]
                exact hblk.alloc _
              case measure => simp [intOf]; omega
            · by_cases hL : x.leaf = -1 ∧ 0 ≤ x.left ∧ x.left < k ∧ 0 ≤ x.right ∧ x.right < k
              · obtain ⟨l0, l1, l2, l3, l4⟩ := hL
                obtain ⟨a, ha⟩ : ∃ a : Nat, x.left = a := ⟨x.left.toNat, by omega⟩
                obtain ⟨d, hd⟩ : ∃ d : Nat, x.right = d := ⟨x.right.toNat, by omega⟩
                have hG := hgood' (Nd.good_node l0 l1 l2 l3 l4)
                have hC : ∀ j, x.cnt j = (if j = a then 1 else 0) + (if j = d then 1 else 0) := by
                  intro j; unfold Nd.cnt; rw [if_neg h0, ha, hd]
                  have e1 : ((a : Int) = (j : Int)) = (j = a) := by apply propext; omega
                  have e2 : ((d : Int) = (j : Int)) = (j = d) := by apply propext; omega
                  simp only [e1, e2]
                have q1 : a < k := by omega
                have q2 : d < k := by omega
                rw [l0] at c0
                rw [ha] at c1
                rw [hd] at c2
                have hra := refs_bounds (l.take k) a
                have hrd := refs_bounds (l.take k) d
                have htk : (l.take k).length ≤ 23 := by simp; omega
                have B1 : refs (l.take k) a ≤ 46 := by omega
                have B2 : refs (l.take k) d ≤ 46 := by omega
                have B3 := hra.1
                have B4 := hrd.1
                have hS1 : ∀ j, (fun j => if j = a then refs (l.take k) a + 1 else refs (l.take k) j) j = if j = a then refs (l.take k) a + 1 else refs (l.take k) j := fun _ => rfl
                have blk1 := hblk.set_ a (.int .i64 (refs (l.take k) a + 1))
                rw [cntCells_set hS1] at blk1
                have d1 := hblk.cell a
                have f1 := hblk.frozen a
                have d2 := blk1.cell d
                have f2 := blk1.frozen d
                have blk2 := blk1.set_ d (.int .i64 ((fun j => if j = a then refs (l.take k) a + 1 else refs (l.take k) j) d + 1))
                rw [cntCells_set (f' := refs (l.take (k + 1))) (fun j => by
                  simp only [hstep, hC]
                  repeat' split
                  all_goals first | omega | (subst_vars; omega))] at blk2
                rw [cntCells_get (by omega)] at d1 d2
                dsimp only at blk2
                obtain ⟨rd, hrd'⟩ : ∃ rd, (if d = a then refs (l.take k) a + 1 else refs (l.take k) d) = rd := ⟨_, rfl⟩
                rw [hrd'] at d2 blk2
                have B5 : 0 ≤ rd ∧ rd ≤ 47 := by
                  rw [← hrd']; split <;> omega
                have B6 := B5.1
                have B7 := B5.2
                clear hrd' blk1 hblk B5 hC hstep
                clear hra hrd htk l0 l1 l2 l3 l4 ha hd h0 hgood hgood' hS1
                go_wp2
                go_roundw
                case rel => exact ⟨k + 1, by omega, by go_num, hG, blk2.alloc _, by (repeat' (first | exact Below.refl _ _ | assumption | refine Below.setCell ?_ (by first | omega | exact Below.size (by assumption) | (simp; done) | (simp; omega)) _ | refine Below.alloc ?_ (by first | omega | exact Below.size (by assumption) | (simp; done) | (simp; omega)) _ | refine Below.drew ?_ | refine below_drewN ?_ _)), by simp; omega⟩
                case measure => simp [intOf]; omega
              · go_wp2
                all_goals first
                  | (go_ret; exact ⟨ret_int (ckPlan_bad HR.out HT.out HZ.out HX.out (Nd.bad_node (by omega) (by first | omega | (left; simp_all)))).symm, by (repeat' (first | exact Below.refl _ _ | assumption | refine Below.setCell ?_ (by first | omega | exact Below.size (by assumption) | (simp; done) | (simp; omega)) _ | refine Below.alloc ?_ (by first | omega | exact Below.size (by assumption) | (simp; done) | (simp; omega)) _ | refine Below.drew ?_ | refine below_drewN ?_ _))⟩)
                  | (exfalso; omega)
                  | (exfalso; simp_all; omega)
          · obtain rfl : k = l.length := by omega
            rw [List.take_length] at hblk
            have hF := Lib.hid (show Falls l parts from fun j x hx => hgood.out j x (List.getElem?_eq_some_iff.1 hx).1 hx)
            clear hgood hlt hk
            go_wp2
            go_loopw [93] (fun i wr => ∃ k : Nat, k ≤ l.length ∧ i = .int .i64 k ∧ Hid (∀ j, j < k → refs l j = (if j + 1 < l.length then 1 else 0)) ∧ Blk wr w.heap.size 3 (cntCells l.length (refs l)) ∧ Below w.heap.size w wr ∧ w.heap.size < wr.heap.size) (fun i _ => l.length - (intOf i).toNat)
            case atStart => exact ⟨0, Nat.zero_le _, rfl, Lib.hid (fun j hj => absurd hj (by omega)), hblk, hb, hsz⟩
            case round =>
              clear hblk hb hsz
              obtain ⟨k, hk, rfl, hall, hblk, hb, hsz⟩ := hrel
              by_cases hlt : k < l.length
              · have d1 := hblk.cell k
                rw [cntCells_get hlt] at d1
                obtain ⟨n, hn⟩ : ∃ n, refs l k = n := ⟨_, rfl⟩
                have hn0 := (refs_bounds l k).1
                have HN := Lib.hid hn
                rw [hn] at d1 hn0
                clear hn
                by_cases hg : n = (if k + 1 < l.length then 1 else 0)
                · have hall' : Hid (∀ j, j < k + 1 → refs l j = (if j + 1 < l.length then 1 else 0)) := fun j hj => by
                    rcases Nat.lt_or_ge j k with hjk | hjk
                    · exact hall.out j hjk
                    · obtain rfl : j = k := by omega
                      rw [HN.out, hg]
                  clear hall
                  by_cases hk1 : k + 1 < l.length
                  · rw [if_pos hk1] at hg
                    subst hg
                    have g3 : decide ((k : Int) < (l.length : Int) - 1) = true := decide_eq_true (by omega)
                    go_wp2
                    go_roundw
                    case rel => exact ⟨k + 1, by omega, by go_num, hall', hblk, hb, hsz⟩
                    case measure => simp [intOf]; omega
                  · rw [if_neg hk1] at hg
                    subst hg
                    have g3 : decide ((k : Int) < (l.length : Int) - 1) = false := decide_eq_false (by omega)
                    go_wp2
                    go_roundw
                    case rel => exact ⟨k + 1, by omega, by go_num, hall', hblk, hb, hsz⟩
                    case measure => simp [intOf]; omega
                · have HB := Lib.hid (ckPlan_form HR.out HT.out HZ.out hF.out hlt (by rw [HN.out]; exact hg))
                  by_cases hn1 : n = 1
                  · subst hn1
                    have hk1 : ¬ k + 1 < l.length := fun hk1 => hg (by rw [if_pos hk1])
                    clear hg
                    have g3 : decide ((k : Int) < (l.length : Int) - 1) = false := decide_eq_false (by omega)
                    go_wp2
                    go_ret
                    exact ⟨ret_int HB.out.symm, hb⟩
                  · have hne : (n == 1) = false := beq_eq_false_iff_ne.2 hn1
                    by_cases hk1 : k + 1 < l.length
                    · clear hg
                      have g3 : decide ((k : Int) < (l.length : Int) - 1) = true := decide_eq_true (by omega)
                      go_wp2
                      go_ret
                      exact ⟨ret_int HB.out.symm, hb⟩
                    · rw [if_neg hk1] at hg
                      have hn2 : 1 < n := by omega
                      clear hg hn1
                      have g3 : decide ((k : Int) < (l.length : Int) - 1) = false := decide_eq_false (by omega)
                      go_wp2
                      go_ret
                      exact ⟨ret_int HB.out.symm, hb⟩
              · obtain rfl : k = l.length := by omega
                have hz3 : ((l.length : Int) - 1) = ((l.length - 1 : Nat) : Int) := by omega
                clear hblk
                go_wp2_with fail
                refine (leaves_any A c l parts hF.out (by omega) hm' (l.length - 1) wr ((h.below hb).more (by omega)) (by omega)).mono ?_
                rintro e w2 ⟨rfl, hb2⟩
                have hbb := hb.trans (hb2.mono (by omega))
                obtain ⟨p, hp⟩ : ∃ p, leavesS l (l.length - 1) = p := ⟨_, rfl⟩
                obtain ⟨p1, p2⟩ := p
                have HP := Lib.hid hp
                rw [hp]
                clear hp hb hb2
                by_cases h1 : p1 = 0
                · subst h1
                  by_cases h2 : p2 = parts
                  · have HB := Lib.hid (ckPlan_ok HR.out HT.out HZ.out hF.out hall.out (by rw [HP.out, h2]))
                    have h2' : (p2 != parts) = false := by simpa using h2
                    clear h2
                    go_wp2
                    go_ret
                    exact ⟨ret_int HB.out.symm, hbb⟩
                  · have HB := Lib.hid (ckPlan_leaves HR.out HT.out HZ.out hF.out hall.out (by rw [HP.out]; simpa using h2))
                    have h2' : (p2 != parts) = true := by simpa using h2
                    clear h2
                    go_wp2
                    go_ret
                    exact ⟨ret_int HB.out.symm, hbb⟩
                · have HB := Lib.hid (ckPlan_leaves HR.out HT.out HZ.out hF.out hall.out (by rw [HP.out]; simp; intro e; exact absurd e h1))
                  have h1' : (p1 != 0) = true := by simpa using h1
                  clear h1
                  go_wp2
                  go_ret
                  exact ⟨ret_int HB.out.symm, hbb⟩
end Go.Proofs.YtokiekachlmigaaDoor

/- slices.Clip at ints. -/
namespace Go.Proofs.YtokiekachlmigaaDoor
open Go.RowKit

set_option maxHeartbeats 1000000 in
theorem clip_any (A : Option Addr) (n c : Nat) (xs : List Value) (w : World) (h : Reads w w.heap.size 1 A n xs) (hc : n ≤ c) :
    Calls Tryd.prog 86 #[.slice A n c] w fun e w' => e = .returned (.slice A n n) ∧ w = w' := by
  go_enter Tryd.func86, Tryd.ntmps86
  go_wp2
  go_ret
  exact ⟨rfl, rfl⟩
end Go.Proofs.YtokiekachlmigaaDoor

/- plan.Ready: what it computes. -/
namespace Go.Proofs.YtokiekachlmigaaDoor
open Go.RowKit

/-- Whether node i can be done. -/
def readyAt (l : List Nd) (done : List Bool) (i : Nat) : Bool :=
  match l[i]?, done[i]? with
  | some x, some false => decide (0 ≤ x.leaf) || ((done[x.left.toNat]? == some true) && (done[x.right.toNat]? == some true))
  | _, _ => false
/-- The nodes that can be done, of the first k. -/
def readyUpto (l : List Nd) (done : List Bool) : Nat → List Int
  | 0 => []
  | k + 1 => if readyAt l done k then readyUpto l done k ++ [(k : Int)] else readyUpto l done k
theorem readyUpto_len (l : List Nd) (done : List Bool) (k : Nat) : (readyUpto l done k).length ≤ k := by
  induction k with
  | zero => simp [readyUpto]
  | succ k ih =>
    rw [readyUpto]
    split
    · simp; omega
    · omega
noncomputable def readyRes (l : List Nd) (parts : Int) (done : List Bool) : List Int × Int :=
  if ckPlan l parts ≠ 0 then ([], ckPlan l parts) else if done.length ≠ l.length then ([], 4) else (readyUpto l done l.length, 0)
theorem readyRes_bad {l : List Nd} {parts : Int} {done : List Bool} (h : ckPlan l parts ≠ 0) : readyRes l parts done = ([], ckPlan l parts) := by unfold readyRes; rw [if_pos h]
theorem readyRes_len {l : List Nd} {parts : Int} {done : List Bool} (h : ckPlan l parts = 0) (h1 : done.length ≠ l.length) : readyRes l parts done = ([], 4) := by
  unfold readyRes; rw [if_neg (fun hn => hn h), if_pos h1]
theorem readyRes_ok {l : List Nd} {parts : Int} {done : List Bool} (h : ckPlan l parts = 0) (h1 : done.length = l.length) : readyRes l parts done = (readyUpto l done l.length, 0) := by
  unfold readyRes; rw [if_neg (fun hn => hn h), if_neg (fun hn => hn h1)]

theorem readyAt_done {l : List Nd} {done : List Bool} {i : Nat} (h : done[i]? = some true) : readyAt l done i = false := by
  unfold readyAt; rw [h]; rcases l[i]? with _ | x <;> rfl
theorem readyAt_leaf {l : List Nd} {done : List Bool} {i : Nat} {x : Nd} (hx : l[i]? = some x) (h : done[i]? = some false) (h0 : 0 ≤ x.leaf) : readyAt l done i = true := by
  unfold readyAt; rw [h, hx]; simp [h0]
theorem readyAt_node {l : List Nd} {done : List Bool} {i a d : Nat} {x : Nd} {p q : Bool} (hx : l[i]? = some x) (h : done[i]? = some false) (h0 : ¬ 0 ≤ x.leaf) (ha : x.left = a) (hd : x.right = d) (hp : done[a]? = some p) (hq : done[d]? = some q) :
    readyAt l done i = (p && q) := by
  unfold readyAt; rw [h, hx]; simp only [ha, hd, Int.toNat_natCast, hp, hq]; cases p <;> cases q <;> simp [h0]

def ReadyIs (w : World) (r : List Int × Int) (e : Ending) (w' : World) : Prop := ∃ v, e = .returned (.tuple #[v, .int .i64 r.2]) ∧ RowAt w' v 1 r.1.length (intsV r.1) ∧ Below w.heap.size w w'

theorem one_cell2 {w : World} {o : Obj} {u : Value} {t : TypeId} (j : Nat) (u' : Value) (h : [u][j]? = some u') : ((w.alloc o).alloc (.cells #[u] t)).cell? ((⟨w.heap.size + 1, 0, none⟩ : Addr).add j) = some u' := by
  have := one_cell (w := w.alloc o) (t := t) j u' h
  simpa using this

theorem bools_at {w : World} {B : Nat} {A : Option Addr} {l : List Bool} (h : Reads w B 1 A l.length (boolsV l)) {k : Nat} (hk : k < l.length) :
    ∃ b off p, A = some ⟨b, off, none⟩ ∧ b < B ∧ l[k]? = some p ∧ w.cell? ⟨b, off + k, none⟩ = some (.bool p) := by
  obtain ⟨b, off, u, e, hb, hu, hc⟩ := h.at_ hk
  rw [show (boolsV l)[k]? = some (.bool l[k]) by simp [boolsV, hk]] at hu
  cases hu
  exact ⟨b, off, l[k], e, hb, List.getElem?_eq_getElem hk, hc⟩

set_option maxHeartbeats 2000000 in
theorem ready_any (A A' : Option Addr) (c c' : Nat) (l : List Nd) (parts : Int) (done : List Bool) (w : World) (h : Reads w w.heap.size 3 A l.length (ndCells l)) (h' : Reads w w.heap.size 1 A' done.length (boolsV done))
    (hm : l.length ≤ 9223372036854775807) (hm' : done.length ≤ 9223372036854775807) :
    Calls Tryd.prog 41 #[.slice A l.length c, .int .i64 parts, .slice A' done.length c'] w (ReadyIs w (readyRes l parts done)) := by
  obtain ⟨i0, hi, hz0, hz1, hz2⟩ := info_parts Tryd.infoInt
  unfold ReadyIs
  go_enter Tryd.func41, Tryd.ntmps41
  go_wp2_with fail
  refine (planCheck_any A c l parts w h hm).mono ?_
  rintro e w1 ⟨rfl, hb⟩
  by_cases hck : ckPlan l parts = 0
  · have HK := Lib.hid hck
    rw [hck]
    clear hck
    by_cases hl : done.length = l.length
    · have HL := Lib.hid hl
      have l1 : done.length ≤ l.length := by omega
      have l2 : l.length ≤ done.length := by omega
      have hl' : ((done.length : Int) != (l.length : Int)) = false := by rw [hl]; simp
      have hZ := ckPlan_zero HK.out
      have h23 : l.length ≤ 23 := hZ.2.2.1
      have HF := Lib.hid hZ.2.2.2.2.1
      clear hl hZ
      go_wp2_with fail
      go_loopw [9, 25] (fun v i wr => ∃ k : Nat, k ≤ l.length ∧ i = .int .i64 k ∧ wr.ownsRow w.heap.size 3 1 v (readyUpto l done k).length (intsV (readyUpto l done k)) ∧ Below w.heap.size w wr) (fun _ i _ => l.length - (intOf i).toNat)
      case atStart => exact ⟨0, Nat.zero_le _, rfl, World.ownsRow_nil _ _ _ _, hb⟩
      case round =>
        clear hb
        obtain ⟨k, hk, rfl, hown, hb⟩ := hrel
        by_cases hlt : k < l.length
        · obtain ⟨x, hx⟩ : ∃ x, l[k]? = some x := ⟨_, List.getElem?_eq_getElem hlt⟩
          obtain ⟨b, off, rfl, hb1, c0, c1, c2⟩ := nd_cells (h.below hb) hx
          obtain ⟨b', off', p, rfl, hb1', hp, d0⟩ := bools_at (h'.below hb) (by omega : k < done.length)
          have hlt' : b' < wr.heap.size := by have := hb.size; omega
          have HP := Lib.hid hp
          have HX := Lib.hid hx
          have hbad := HF.out k x hx
          clear hp hx
          have hnot : readyAt l done k = false → Hid (readyUpto l done (k + 1) = readyUpto l done k) := fun hn => by
            show readyUpto l done (k + 1) = _
            rw [readyUpto, hn]; rfl
          have hyes : readyAt l done k = true → Hid (readyUpto l done (k + 1) = readyUpto l done k ++ [(k : Int)]) := fun hn => by
            show readyUpto l done (k + 1) = _
            rw [readyUpto, hn]; rfl
          rcases p with _ | _
          · have fin : ∀ (s : Bool), readyAt l done k = s → s = true → Hid (readyUpto l done (k + 1) = readyUpto l done k ++ [(k : Int)]) := fun s e1 e2 => hyes (e1.trans e2)
            have hlenk := readyUpto_len l done k
            by_cases h0 : 0 ≤ x.leaf
            · have HN := hyes (readyAt_leaf HX.out HP.out h0)
              clear hnot hyes hbad fin
              (go_wp2_with (at_builtin; refine wpList_append_own _ rfl (.tmp 54) (.tmp 56) 47 rfl w.heap.size 3 i0 (.int .i64 0) 1 8 Tryd.underlying47 hi hz0 hz1 hz2 rfl (by decide) _ _ _ rfl ((hown.alloc _).alloc _) ⟨_, 0, none⟩ 1 1 [.int .i64 k] rfl rfl ?c1 ?c2 ?c3 ?c4 ?c5 ?_); (case c1 => exact one_cell2); (case c2 => intro u hu; simp at hu; subst hu; rfl); (case c3 => unfold maxLen; omega); (case c4 => omega); (case c5 => have := hb.size; simp; omega); intro v' w3 hown3 hg3 _; obtain ⟨hp3, hz3⟩ := own_push (hown.alloc _) hg3 (by have := hb.size; simp; omega); have RB : Below w.heap.size w w3 := (hb.alloc hb.size _).trans hp3; clear hp3 hg3 hown; go_wp2; go_roundw; (case rel => exact ⟨k + 1, by omega, by go_num, by rw [HN.out]; simpa [intsV, intV] using hown3, RB⟩); (case measure => simp [intOf]; omega))
            · unfold Nd.bad at hbad
              rw [if_neg h0] at hbad
              obtain ⟨a, ha⟩ : ∃ a : Nat, x.left = a := ⟨x.left.toNat, by omega⟩
              obtain ⟨d, hd⟩ : ∃ d : Nat, x.right = d := ⟨x.right.toNat, by omega⟩
              obtain ⟨b2, off2, p, he, _, hp, d1⟩ := bools_at (h'.below hb) (by omega : a < done.length)
              cases he
              obtain ⟨b2, off2, q, he, _, hq, d2⟩ := bools_at (h'.below hb) (by omega : d < done.length)
              cases he
              have hr := readyAt_node HX.out HP.out h0 ha hd hp hq
              have q1 : a < k := by omega
              have q2 : d < k := by omega
              have h0' : decide (0 ≤ x.leaf) = false := by simpa using h0
              rw [ha] at c1
              rw [hd] at c2
              clear hbad hp hq ha hd h0
              rcases p with _ | _
              · have HN := hnot hr
                clear hr hnot hyes fin
                (go_wp2; go_roundw; (case rel => exact ⟨k + 1, by omega, by go_num, by rw [HN.out]; exact hown.alloc _, by (repeat' (first | exact Below.refl _ _ | assumption | refine Below.setCell ?_ (by first | omega | exact Below.size (by assumption) | (simp; done) | (simp; omega)) _ | refine Below.alloc ?_ (by first | omega | exact Below.size (by assumption) | (simp; done) | (simp; omega)) _ | refine Below.drew ?_ | refine below_drewN ?_ _))⟩); (case measure => simp [intOf]; omega))
              · rcases q with _ | _
                · have HN := hnot hr
                  clear hr hnot hyes fin
                  (go_wp2; go_roundw; (case rel => exact ⟨k + 1, by omega, by go_num, by rw [HN.out]; exact hown.alloc _, by (repeat' (first | exact Below.refl _ _ | assumption | refine Below.setCell ?_ (by first | omega | exact Below.size (by assumption) | (simp; done) | (simp; omega)) _ | refine Below.alloc ?_ (by first | omega | exact Below.size (by assumption) | (simp; done) | (simp; omega)) _ | refine Below.drew ?_ | refine below_drewN ?_ _))⟩); (case measure => simp [intOf]; omega))
                · have HN := hyes hr
                  clear hr hnot hyes fin
                  (go_wp2_with (at_builtin; refine wpList_append_own _ rfl (.tmp 54) (.tmp 56) 47 rfl w.heap.size 3 i0 (.int .i64 0) 1 8 Tryd.underlying47 hi hz0 hz1 hz2 rfl (by decide) _ _ _ rfl ((hown.alloc _).alloc _) ⟨_, 0, none⟩ 1 1 [.int .i64 k] rfl rfl ?c1 ?c2 ?c3 ?c4 ?c5 ?_); (case c1 => exact one_cell2); (case c2 => intro u hu; simp at hu; subst hu; rfl); (case c3 => unfold maxLen; omega); (case c4 => omega); (case c5 => have := hb.size; simp; omega); intro v' w3 hown3 hg3 _; obtain ⟨hp3, hz3⟩ := own_push (hown.alloc _) hg3 (by have := hb.size; simp; omega); have RB : Below w.heap.size w w3 := (hb.alloc hb.size _).trans hp3; clear hp3 hg3 hown; go_wp2; go_roundw; (case rel => exact ⟨k + 1, by omega, by go_num, by rw [HN.out]; simpa [intsV, intV] using hown3, RB⟩); (case measure => simp [intOf]; omega))
          · have HN := hnot (readyAt_done HP.out)
            clear hnot hyes hbad
            go_wp2
            go_roundw
            case rel => exact ⟨k + 1, by omega, by go_num, by rw [HN.out]; exact hown.alloc _, by (repeat' (first | exact Below.refl _ _ | assumption | refine Below.setCell ?_ (by first | omega | exact Below.size (by assumption) | (simp; done) | (simp; omega)) _ | refine Below.alloc ?_ (by first | omega | exact Below.size (by assumption) | (simp; done) | (simp; omega)) _ | refine Below.drew ?_ | refine below_drewN ?_ _))⟩
            case measure => simp [intOf]; omega
        · obtain rfl : k = l.length := by omega
          have HR := Lib.hid (readyRes_ok HK.out HL.out)
          obtain ⟨A1, c1, rfl, hc1, hr1⟩ := RowAt.of_own hown
          go_wp2_with fail
          refine (clip_any A1 _ c1 _ wr hr1 hc1).mono ?_
          rintro e w2 ⟨rfl, rfl⟩
          go_wp2
          go_ret2
          rw [HR.out]
          exact ⟨_, rfl, ⟨_, _, rfl, Nat.le_refl _, hr1⟩, hb⟩
    · have hl' : ((done.length : Int) != (l.length : Int)) = true := by simp; omega
      have HR := Lib.hid (readyRes_len HK.out hl)
      clear hl
      go_wp2
      go_ret2
      rw [HR.out]
      exact ⟨_, rfl, RowAt.nil _ _, hb⟩
  · have hck' : (ckPlan l parts != 0) = true := by simpa using hck
    have HR := Lib.hid (readyRes_bad (done := done) hck)
    clear hck
    go_wp2
    go_ret2
    rw [HR.out]
    exact ⟨_, rfl, RowAt.nil _ _, hb⟩
end Go.Proofs.YtokiekachlmigaaDoor
