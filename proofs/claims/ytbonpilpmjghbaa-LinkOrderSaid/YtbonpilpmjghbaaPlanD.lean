/- Plans as plain data, and what plan.Check says of them. No program in sight. -/
import Derived.Test.YtbonpilpmjghbaaOpen
set_option linter.all false
namespace Go.Proofs.Ytbonpilpmjghbaa
open Go.RowKit

structure Nd where
  leaf : Int
  left : Int
  right : Int
deriving DecidableEq

def Nd.cells (x : Nd) : List Value := [.int .i64 x.leaf, .int .i64 x.left, .int .i64 x.right]
def ndCells (l : List Nd) : List Value := l.flatMap Nd.cells
theorem Nd.cells_len (x : Nd) : x.cells.length = 3 := rfl
theorem ndCells_at {l : List Nd} {k : Nat} {x : Nd} (h : l[k]? = some x) (j : Nat) (hj : j < 3) : (ndCells l)[k * 3 + j]? = x.cells[j]? := flatMap_get Nd.cells_len l k j x hj h
theorem ndCells_len (l : List Nd) : (ndCells l).length = l.length * 3 := flatMap_len Nd.cells_len l
theorem ndCells_append (l m : List Nd) : ndCells (l ++ m) = ndCells l ++ ndCells m := by unfold ndCells; rw [List.flatMap_append]

def Nd.bad (x : Nd) (i : Nat) (parts : Int) : Prop :=
  if 0 ≤ x.leaf then parts ≤ x.leaf ∨ x.left ≠ 0 ∨ x.right ≠ 0
  else x.leaf ≠ -1 ∨ x.left < 0 ∨ (i : Int) ≤ x.left ∨ x.right < 0 ∨ (i : Int) ≤ x.right

theorem Nd.bad_leaf {x : Nd} {i : Nat} {parts : Int} (h : 0 ≤ x.leaf) (hb : parts ≤ x.leaf ∨ x.left ≠ 0 ∨ x.right ≠ 0) : x.bad i parts := by unfold Nd.bad; rw [if_pos h]; exact hb
theorem Nd.bad_node {x : Nd} {i : Nat} {parts : Int} (h : x.leaf < 0) (hb : x.leaf ≠ -1 ∨ x.left < 0 ∨ (i : Int) ≤ x.left ∨ x.right < 0 ∨ (i : Int) ≤ x.right) : x.bad i parts := by unfold Nd.bad; rw [if_neg (by omega)]; exact hb
theorem Nd.good_leaf {x : Nd} {i : Nat} {parts : Int} (h : 0 ≤ x.leaf) (h1 : x.leaf < parts) (h2 : x.left = 0) (h3 : x.right = 0) : ¬ x.bad i parts := by unfold Nd.bad; rw [if_pos h]; omega
theorem Nd.good_node {x : Nd} {i : Nat} {parts : Int} (h : x.leaf = -1) (h1 : 0 ≤ x.left) (h2 : x.left < i) (h3 : 0 ≤ x.right) (h4 : x.right < i) : ¬ x.bad i parts := by unfold Nd.bad; rw [if_neg (by omega)]; omega

/-- How often a node has node j below it. -/
def Nd.cnt (x : Nd) (j : Nat) : Int := if 0 ≤ x.leaf then 0 else (if x.left = j then 1 else 0) + (if x.right = j then 1 else 0)
def refs : List Nd → Nat → Int
  | [], _ => 0
  | x :: r, j => x.cnt j + refs r j
theorem refs_append (l m : List Nd) (j : Nat) : refs (l ++ m) j = refs l j + refs m j := by
  induction l with
  | nil => simp [refs]
  | cons x r ih => simp only [List.cons_append, refs, ih]; omega
theorem refs_step {l : List Nd} {k : Nat} {x : Nd} (h : l[k]? = some x) (j : Nat) : refs (l.take (k + 1)) j = refs (l.take k) j + x.cnt j := by
  obtain ⟨hk, rfl⟩ := List.getElem?_eq_some_iff.1 h
  rw [List.take_succ_eq_append_getElem hk, refs_append]
  simp [refs]
theorem cnt_bounds (x : Nd) (j : Nat) : 0 ≤ x.cnt j ∧ x.cnt j ≤ 2 := by
  unfold Nd.cnt; repeat' split <;> omega
theorem refs_bounds (l : List Nd) (j : Nat) : 0 ≤ refs l j ∧ refs l j ≤ 2 * l.length := by
  induction l with
  | nil => simp [refs]
  | cons x r ih => have := cnt_bounds x j; simp only [refs, List.length_cons]; omega

/-- How many leaves are below a node, and from which one on. -/
def leavesS (l : List Nd) (i : Nat) : Int × Int :=
  match l[i]? with
  | none => (-1, 0)
  | some x =>
    if 0 ≤ x.leaf then (x.leaf, 1)
    else if h : x.left.toNat < i ∧ x.right.toNat < i then
      let a := leavesS l x.left.toNat
      let b := leavesS l x.right.toNat
      if a.1 < 0 ∨ b.1 < 0 ∨ a.1 + a.2 ≠ b.1 then (-1, 0) else (a.1, a.2 + b.2)
    else (-1, 0)
termination_by i
decreasing_by
  · exact h.1
  · exact h.2

theorem leavesS_leaf {l : List Nd} {i : Nat} {x : Nd} (h : l[i]? = some x) (h0 : 0 ≤ x.leaf) : leavesS l i = (x.leaf, 1) := by
  rw [leavesS]; simp only [h]; rw [if_pos h0]
theorem leavesS_node {l : List Nd} {i a b : Nat} {x : Nd} (h : l[i]? = some x) (h0 : x.leaf < 0) (ha : x.left = a) (hb : x.right = b) (hai : a < i) (hbi : b < i) :
    leavesS l i = if (leavesS l a).1 < 0 ∨ (leavesS l b).1 < 0 ∨ (leavesS l a).1 + (leavesS l a).2 ≠ (leavesS l b).1 then (-1, 0) else ((leavesS l a).1, (leavesS l a).2 + (leavesS l b).2) := by
  rw [leavesS]; simp only [h]; rw [if_neg (by omega), ha, hb]
  rw [dif_pos ⟨by simpa using hai, by simpa using hbi⟩]
  simp

/-- Every node has nodes below it that stand ahead of it. -/
def Falls (l : List Nd) (parts : Int) : Prop := ∀ (i : Nat) x, l[i]? = some x → ¬ x.bad i parts

theorem leavesS_bounds {l : List Nd} {parts : Int} (hf : Falls l parts) (hp : parts ≤ 1000) : ∀ i, i < 40 → -1 ≤ (leavesS l i).1 ∧ (leavesS l i).1 ≤ 1000 ∧ 0 ≤ (leavesS l i).2 ∧ (leavesS l i).2 ≤ 2 ^ i := by
  intro i
  induction i using Nat.strongRecOn with
  | _ i ih =>
    intro hi
    rcases hx : l[i]? with _ | x
    · rw [leavesS]; simp only [hx]; simp
      exact Int.le_of_lt (Int.pow_pos (by omega))
    · have h1 := hf i x hx
      have hpos : (1 : Int) ≤ 2 ^ i := by have := @Int.pow_pos 2 i (by omega); omega
      by_cases h0 : 0 ≤ x.leaf
      · rw [leavesS_leaf hx h0]
        unfold Nd.bad at h1; rw [if_pos h0] at h1
        simp; omega
      · unfold Nd.bad at h1; rw [if_neg h0] at h1
        obtain ⟨a, ha⟩ : ∃ a : Nat, x.left = a := ⟨x.left.toNat, by omega⟩
        obtain ⟨b, hb⟩ : ∃ b : Nat, x.right = b := ⟨x.right.toNat, by omega⟩
        rw [leavesS_node hx (by omega) ha hb (by omega) (by omega)]
        have A := ih a (by omega) (by omega)
        have B := ih b (by omega) (by omega)
        have pa : (2 : Int) ^ a ≤ 2 ^ (i - 1) := by exact_mod_cast Nat.pow_le_pow_right (by omega) (by omega : a ≤ i - 1)
        have pb : (2 : Int) ^ b ≤ 2 ^ (i - 1) := by exact_mod_cast Nat.pow_le_pow_right (by omega) (by omega : b ≤ i - 1)
        have pi : (2 : Int) ^ i = 2 * 2 ^ (i - 1) := by
          have : i = (i - 1) + 1 := by omega
          conv => lhs; rw [this, Int.pow_succ]
          omega
        split
        · simp; omega
        · simp; omega

open Classical in
/-- What plan.Check answers. -/
noncomputable def ckPlan (l : List Nd) (parts : Int) : Int :=
  if parts < 1 ∨ 12 < parts then 3 else if 23 < l.length then 2 else if l.length = 0 then 4
  else if ¬ Falls l parts then 3 else if ∃ i, i < l.length ∧ refs l i ≠ (if i + 1 < l.length then 1 else 0) then 4
  else if leavesS l (l.length - 1) ≠ (0, parts) then 4 else 0

section
variable {l : List Nd} {parts : Int}
theorem ckPlan_range (h : parts < 1 ∨ 12 < parts) : ckPlan l parts = 3 := by unfold ckPlan; rw [if_pos h]
theorem ckPlan_many (h : ¬ (parts < 1 ∨ 12 < parts)) (h1 : 23 < (l.length : Int)) : ckPlan l parts = 2 := by unfold ckPlan; rw [if_neg h, if_pos (by omega)]
theorem ckPlan_none (h : ¬ (parts < 1 ∨ 12 < parts)) (h1 : l.length = 0) : ckPlan l parts = 4 := by unfold ckPlan; rw [if_neg h, if_neg (by omega), if_pos h1]
theorem ckPlan_bad (h : ¬ (parts < 1 ∨ 12 < parts)) (h1 : l.length ≤ 23) (h2 : l.length ≠ 0) {i : Nat} {x : Nd} (hx : l[i]? = some x) (hb : x.bad i parts) : ckPlan l parts = 3 := by
  unfold ckPlan; rw [if_neg h, if_neg (by omega), if_neg h2, if_pos (fun hf => hf i x hx hb)]
theorem ckPlan_form (h : ¬ (parts < 1 ∨ 12 < parts)) (h1 : l.length ≤ 23) (h2 : l.length ≠ 0) (hf : Falls l parts) {i : Nat} (hi : i < l.length) (hr : refs l i ≠ (if i + 1 < l.length then 1 else 0)) : ckPlan l parts = 4 := by
  unfold ckPlan; rw [if_neg h, if_neg (by omega), if_neg h2, if_neg (fun hn => hn hf), if_pos ⟨i, hi, hr⟩]
theorem ckPlan_leaves (h : ¬ (parts < 1 ∨ 12 < parts)) (h1 : l.length ≤ 23) (h2 : l.length ≠ 0) (hf : Falls l parts) (hr : ∀ i, i < l.length → refs l i = (if i + 1 < l.length then 1 else 0))
    (hl : leavesS l (l.length - 1) ≠ (0, parts)) : ckPlan l parts = 4 := by
  unfold ckPlan; rw [if_neg h, if_neg (by omega), if_neg h2, if_neg (fun hn => hn hf), if_neg (fun ⟨i, hi, hn⟩ => hn (hr i hi)), if_pos hl]
theorem ckPlan_ok (h : ¬ (parts < 1 ∨ 12 < parts)) (h1 : l.length ≤ 23) (h2 : l.length ≠ 0) (hf : Falls l parts) (hr : ∀ i, i < l.length → refs l i = (if i + 1 < l.length then 1 else 0))
    (hl : leavesS l (l.length - 1) = (0, parts)) : ckPlan l parts = 0 := by
  unfold ckPlan; rw [if_neg h, if_neg (by omega), if_neg h2, if_neg (fun hn => hn hf), if_neg (fun ⟨i, hi, hn⟩ => hn (hr i hi)), if_neg (fun hn => hn hl)]
theorem ckPlan_zero (h : ckPlan l parts = 0) : 1 ≤ parts ∧ parts ≤ 12 ∧ l.length ≤ 23 ∧ l.length ≠ 0 ∧ Falls l parts ∧ (∀ i, i < l.length → refs l i = (if i + 1 < l.length then 1 else 0)) ∧ leavesS l (l.length - 1) = (0, parts) := by
  unfold ckPlan at h
  split at h
  · simp at h
  split at h
  · simp at h
  split at h
  · simp at h
  split at h
  · simp at h
  split at h
  · simp at h
  split at h
  · simp at h
  rename_i h1 h2 h3 h4 h5 h6
  refine ⟨by omega, by omega, by omega, h3, Classical.not_not.1 h4, fun i hi => ?_, Classical.not_not.1 h6⟩
  exact Classical.byContradiction fun hn => h5 ⟨i, hi, hn⟩
end

/-- The block g has n counts, f's. -/
def cntCells (n : Nat) (f : Nat → Int) : Array Value := ((List.range n).map fun j => Value.int .i64 (f j)).toArray
theorem cntCells_get {n : Nat} {f : Nat → Int} {j : Nat} (h : j < n) : (cntCells n f)[j]? = some (.int .i64 (f j)) := by
  unfold cntCells; simp [h]
theorem cntCells_size (n : Nat) (f : Nat → Int) : (cntCells n f).size = n := by unfold cntCells; simp
theorem cntCells_set {n : Nat} {f f' : Nat → Int} {a : Nat} (h : ∀ j, f' j = if j = a then f a + 1 else f j) : (cntCells n f).setIfInBounds a (.int .i64 (f a + 1)) = cntCells n f' := by
  apply Array.ext_getElem?
  intro i
  rw [Array.getElem?_setIfInBounds, cntCells_size]
  rcases Nat.lt_or_ge i n with hi | hi
  · rw [cntCells_get hi, cntCells_get hi, h i]
    split
    · rename_i e; subst e; rw [if_pos hi, if_pos rfl]
    · rename_i e; rw [if_neg (fun e' => e e'.symm)]
  · have e1 : (cntCells n f')[i]? = none := Array.getElem?_eq_none (by rw [cntCells_size]; exact hi)
    have e2 : (cntCells n f)[i]? = none := Array.getElem?_eq_none (by rw [cntCells_size]; exact hi)
    rw [e1, e2]
    split
    · rename_i e; subst e; rw [if_neg (by omega)]
    · rfl
end Go.Proofs.Ytbonpilpmjghbaa
