/- plan.leaves, plan.Check: what they compute. -/
import Derived.Test.YtkkjfjbkhafaiaaPlanD
import Derived.Test.YtkkjfjbkhafaiaaWalk
namespace Go.Proofs.Ytkkjfjbkhafaiaa
open Go.RowKit

theorem nd_cells {w : World} {B : Nat} {A : Option Addr} {l : List Nd} (h : Reads w B 3 A l.length (ndCells l)) {k : Nat} {x : Nd} (hx : l[k]? = some x) :
    ∃ b off, A = some ⟨b, off, none⟩ ∧ b < B ∧ w.cell? ⟨b, off + k * 3, none⟩ = some (.int .i64 x.leaf) ∧ w.cell? ⟨b, off + k * 3 + 1, none⟩ = some (.int .i64 x.left) ∧ w.cell? ⟨b, off + k * 3 + 2, none⟩ = some (.int .i64 x.right) := by
  obtain ⟨hk, _⟩ := List.getElem?_eq_some_iff.1 hx
  obtain ⟨b, off, e, hb, hc⟩ := h.2 (by omega)
  refine ⟨b, off, e, hb, ?_, ?_, ?_⟩
  · exact hc (k * 3 + 0) _ ((ndCells_at hx 0 (by omega)).trans rfl)
  · rw [Nat.add_assoc]; exact hc (k * 3 + 1) _ ((ndCells_at hx 1 (by omega)).trans rfl)
  · rw [Nat.add_assoc]; exact hc (k * 3 + 2) _ ((ndCells_at hx 2 (by omega)).trans rfl)

set_option maxHeartbeats 1000000 in
theorem leaves_any (A : Option Addr) (c : Nat) (l : List Nd) (parts : Int) (hf : Falls l parts) (hp : parts ≤ 1000) (hm : l.length ≤ 23) : ∀ (i : Nat) (w : World), Reads w w.heap.size 3 A l.length (ndCells l) → i < l.length →
    Calls Try.prog 38 #[.slice A l.length c, .int .i64 i] w fun e w' => e = .returned (.tuple #[.int .i64 (leavesS l i).1, .int .i64 (leavesS l i).2]) ∧ Below w.heap.size w w' := by
  intro i
  induction i using Nat.strongRecOn with
  | _ i ih =>
    intro w h hi
    obtain ⟨x, hx⟩ : ∃ x, l[i]? = some x := ⟨_, List.getElem?_eq_getElem hi⟩
    obtain ⟨b, off, rfl, hb, c0, c1, c2⟩ := nd_cells h hx
    have hbad := hf i x hx
    have B := leavesS_bounds hf hp
    by_cases h0 : 0 ≤ x.leaf
    · have HL := Lib.hid (leavesS_leaf hx h0)
      clear hbad hx B
      go_enter Try.func38, Try.ntmps38
      go_wp2
      go_ret2
      rw [HL.out]
      exact ⟨rfl, by (repeat' (first | exact Below.refl _ _ | assumption | refine Below.setCell ?_ (by first | omega | exact Below.size (by assumption) | (simp; done) | (simp; omega)) _ | refine Below.alloc ?_ (by first | omega | exact Below.size (by assumption) | (simp; done) | (simp; omega)) _ | refine Below.drew ?_ | refine below_drewN ?_ _))⟩
    · unfold Nd.bad at hbad
      rw [if_neg h0] at hbad
      obtain ⟨a, ha⟩ : ∃ a : Nat, x.left = a := ⟨x.left.toNat, by omega⟩
      obtain ⟨d, hd⟩ : ∃ d : Nat, x.right = d := ⟨x.right.toNat, by omega⟩
      have h1 : a < i := by omega
      have h2 : d < i := by omega
      have h3 : decide (0 ≤ x.leaf) = false := by simpa using h0
      have HL := Lib.hid (leavesS_node hx (by omega) ha hd h1 h2)
      have Ba := B a (by omega)
      have Bd := B d (by omega)
      have pa : (2 : Int) ^ a ≤ 2 ^ 23 := by exact_mod_cast Nat.pow_le_pow_right (by omega) (by omega : a ≤ 23)
      have pd : (2 : Int) ^ d ≤ 2 ^ 23 := by exact_mod_cast Nat.pow_le_pow_right (by omega) (by omega : d ≤ 23)
      rw [ha] at c1
      rw [hd] at c2
      obtain ⟨p, hp'⟩ : ∃ p, leavesS l a = p := ⟨_, rfl⟩
      obtain ⟨q, hq⟩ : ∃ q, leavesS l d = q := ⟨_, rfl⟩
      obtain ⟨p1, p2⟩ := p
      obtain ⟨q1, q2⟩ := q
      have IA := fun w => ih a h1 w
      have ID := fun w => ih d h2 w
      rw [hp'] at IA Ba
      rw [hq] at ID Bd
      have e1 : -1 ≤ p1 := Ba.1
      have e2 : p1 ≤ 1000 := Ba.2.1
      have e3 : 0 ≤ p2 := Ba.2.2.1
      have e4 : p2 ≤ 8388608 := Int.le_trans Ba.2.2.2 pa
      have e5 : -1 ≤ q1 := Bd.1
      have e6 : q1 ≤ 1000 := Bd.2.1
      have e7 : 0 ≤ q2 := Bd.2.2.1
      have e8 : q2 ≤ 8388608 := Int.le_trans Bd.2.2.2 pd
      have HP := Lib.hid hp'
      have HQ := Lib.hid hq
      clear hbad hx ha hd ih B Ba Bd pa pd hp' hq h0
      go_enter Try.func38, Try.ntmps38
      go_wp2_with fail
      have hN := Blk.new' w 76 #[.int .i64 x.leaf, .int .i64 a, .int .i64 d] rfl
      refine (IA _ ((h.alloc (Nat.le_refl _) _).more (by simp)) (by omega)).mono ?_
      rintro e w1 ⟨rfl, hb1⟩
      have hN1 := hN.all hb1
      have h1' := ((h.alloc (Nat.le_refl _) _).more (by simp)).below hb1 |>.more hb1.size
      have hw1 : Below w.heap.size w w1 := ((Below.refl _ w).alloc (Nat.le_refl _) _).trans (hb1.mono (by simp))
      have m0 := hN1.cell 0
      have m1 := hN1.cell 1
      have m2 := hN1.cell 2
      clear hb1
      go_wp2_with fail
      refine (ID _ h1' (by omega)).mono ?_
      rintro e w2 ⟨rfl, hb2⟩
      have hw2 : Below w.heap.size w w2 := hw1.trans (hb2.mono hw1.size)
      clear hb2 hw1 h1' hN hN1 m0 m1 m2 IA ID h c0 c1 c2
      go_wp2
      all_goals
        go_ret2
        refine ⟨?_, hw2⟩
        rw [HL.out, HP.out, HQ.out]
        first
          | (rw [if_pos (by simp only; omega)]; rfl)
          | (have h9 : ¬ p1 + p2 = q1 := (by assumption); rw [if_pos (by simp only; omega)]; rfl)
          | (have h9 : p1 + p2 ≠ q1 := by simpa using (by assumption : (p1 + p2 != q1) = true)
             rw [if_pos (by simp only; omega)]; rfl)
          | (have h9 : p1 + p2 = q1 := by simpa using (by assumption : (p1 + p2 != q1) = false)
             rw [if_neg (by simp only; omega)]; rfl)
          | (have h9 : p1 + p2 = q1 := by simpa using (by assumption : ¬ (p1 + p2 != q1) = true)
             rw [if_neg (by simp only; omega)]; rfl)
end Go.Proofs.Ytkkjfjbkhafaiaa
