/- Trees of parts, and the plan that each is. No program in sight. -/
import Derived.Test.YtkkjfjbkhafaiaaPlanD
namespace Go.Proofs.Ytkkjfjbkhafaiaa

inductive Tr where
  | one : Tr
  | two : Tr → Tr → Tr
def Tr.leaves : Tr → Nat
  | .one => 1
  | .two a b => a.leaves + b.leaves
def Tr.size : Tr → Nat
  | .one => 1
  | .two a b => a.size + b.size + 1
def Tr.flat : Tr → Nat → Int → List Nd
  | .one, _, f => [⟨f, 0, 0⟩]
  | .two x y, b, f => x.flat b f ++ y.flat (b + x.size) (f + x.leaves) ++ [⟨-1, ((b + x.size : Nat) : Int) - 1, ((b + x.size + y.size : Nat) : Int) - 1⟩]
theorem Tr.leaves_pos : ∀ t : Tr, 1 ≤ t.leaves
  | .one => Nat.le_refl _
  | .two a b => by have := Tr.leaves_pos a; simp [Tr.leaves]; omega
theorem Tr.size_eq : ∀ t : Tr, t.size + 1 = 2 * t.leaves
  | .one => rfl
  | .two a b => by have := Tr.size_eq a; have := Tr.size_eq b; simp [Tr.leaves, Tr.size]; omega
theorem Tr.flat_len : ∀ (t : Tr) (b : Nat) (f : Int), (t.flat b f).length = t.size
  | .one, _, _ => rfl
  | .two x y, b, f => by simp [Tr.flat, Tr.size, Tr.flat_len x, Tr.flat_len y]; omega

/-- The tree that picks make. -/
def growT (p : Nat → Int) (n next : Nat) : Tr :=
  if h : n ≤ 1 then .one
  else .two (growT p ((p next % ((n - 1 : Nat) : Int)).toNat + 1) (next + 1)) (growT p (n - (p next % ((n - 1 : Nat) : Int)).toNat - 1) (next + 1 + (p next % ((n - 1 : Nat) : Int)).toNat))
termination_by n
decreasing_by
  · have := Int.emod_lt_of_pos (p next) (show (0 : Int) < ((n - 1 : Nat) : Int) by omega)
    have := Int.emod_nonneg (p next) (show ((n - 1 : Nat) : Int) ≠ 0 by omega)
    omega
  · omega

theorem growT_one (p : Nat → Int) (next : Nat) : growT p 1 next = .one := by rw [growT, dif_pos (by omega)]
theorem growT_two {p : Nat → Int} {n next k : Nat} (h : 2 ≤ n) (hk : p next % ((n - 1 : Nat) : Int) = k) : growT p n next = .two (growT p (k + 1) (next + 1)) (growT p (n - k - 1) (next + 1 + k)) := by
  rw [growT, dif_neg (by omega), hk]; simp
theorem pick_bounds (p : Nat → Int) (next : Nat) {n : Nat} (h : 2 ≤ n) : ∃ k : Nat, p next % ((n - 1 : Nat) : Int) = k ∧ k + 1 < n := by
  have h1 := Int.emod_lt_of_pos (p next) (show (0 : Int) < ((n - 1 : Nat) : Int) by omega)
  have h2 := Int.emod_nonneg (p next) (show ((n - 1 : Nat) : Int) ≠ 0 by omega)
  exact ⟨(p next % ((n - 1 : Nat) : Int)).toNat, by omega, by omega⟩
theorem growT_leaves (p : Nat → Int) : ∀ n next, 1 ≤ n → (growT p n next).leaves = n := by
  intro n
  induction n using Nat.strongRecOn with
  | _ n ih =>
    intro next hn
    by_cases h1 : n = 1
    · subst h1; rw [growT_one]; rfl
    · obtain ⟨k, hk, hkn⟩ := pick_bounds p next (show 2 ≤ n by omega)
      rw [growT_two (by omega) hk, Tr.leaves, ih _ (by omega) _ (by omega), ih _ (by omega) _ (by omega)]
      omega
/-- Only the picks that are wanted count. -/
theorem growT_same (p q : Nat → Int) : ∀ n next, 1 ≤ n → (∀ j, next ≤ j → j + 1 < next + n → p j = q j) → growT p n next = growT q n next := by
  intro n
  induction n using Nat.strongRecOn with
  | _ n ih =>
    intro next hn h
    by_cases h1 : n = 1
    · subst h1; rw [growT_one, growT_one]
    · obtain ⟨k, hk, hkn⟩ := pick_bounds p next (show 2 ≤ n by omega)
      have hk' := hk
      rw [h next (by omega) (by omega)] at hk'
      rw [growT_two (by omega) hk, growT_two (by omega) hk']
      rw [ih _ (by omega) _ (by omega) fun j h2 h3 => h j (by omega) (by omega), ih _ (by omega) _ (by omega) fun j h2 h3 => h j (by omega) (by omega)]
end Go.Proofs.Ytkkjfjbkhafaiaa
