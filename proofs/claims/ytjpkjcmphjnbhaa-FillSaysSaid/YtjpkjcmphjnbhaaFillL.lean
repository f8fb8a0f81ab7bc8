/- What is put is got, and all else is as it was: the plain law. No program in sight. -/
import Derived.Test.YtjpkjcmphjnbhaaFillD
namespace Go.Proofs.Ytjpkjcmphjnbhaa

theorem kind_facts {k : Int} (h : leastOf k ≤ mostOf k) : (leastOf k = 0 ∧ mostOf k = 255 ∧ wideOf k = 1) ∨ (leastOf k = 0 ∧ mostOf k = 65535 ∧ wideOf k = 2) ∨ (leastOf k = -128 ∧ mostOf k = 127 ∧ wideOf k = 1) ∨ (leastOf k = -32768 ∧ mostOf k = 32767 ∧ wideOf k = 2) := by
  rcases least_le k h with rfl | rfl | rfl | rfl <;> decide

theorem getD_set_same (b : List UInt8) (p : Nat) (x : UInt8) (h : p < b.length) : (b.set p x).getD p 0 = x := by simp [h]
theorem getD_set_ne (b : List UInt8) (p q : Nat) (x : UInt8) (h : p ≠ q) : (b.set p x).getD q 0 = b.getD q 0 := by simp [List.getElem?_set_ne h]
theorem byte_lt (b : List UInt8) (p : Nat) : 0 ≤ ((b.getD p 0).toNat : Int) ∧ ((b.getD p 0).toNat : Int) ≤ 255 := by have := (b.getD p 0).toNat_lt; omega
theorem byteN_of (b : List UInt8) (p : Nat) (m : Int) (h : m % 256 = ((b.getD p 0).toNat : Int)) : byteN m = b.getD p 0 := by
  apply UInt8.toNat.inj
  have := byteN_toNat m
  omega
theorem set_getD (b : List UInt8) (p : Nat) (h : p < b.length) : b.set p (b.getD p 0) = b := by
  rw [List.getD_eq_getElem?_getD, List.getElem?_eq_getElem h]; simp

section
variable {k : Int} {b : List UInt8} {p : Nat}
theorem get_put (hk : leastOf k ≤ mostOf k) {n : Int} (h0 : leastOf k ≤ n) (h1 : n ≤ mostOf k) (hp : (p : Int) ≤ b.length - wideOf k) : signed k (getB (putB b p k n) p k) = n := by
  have e0 := byteN_toNat n
  have e1 := byteN_toNat (n / 256)
  rcases kind_facts hk with ⟨a1, a2, a3⟩ | ⟨a1, a2, a3⟩ | ⟨a1, a2, a3⟩ | ⟨a1, a2, a3⟩
  all_goals
    unfold signed getB putB
    simp only [a2, a3]
    rw [a1] at h0
    rw [a2] at h1
    rw [a3] at hp
  · simp only [if_neg (show ¬ (1 : Int) = 2 by decide)]
    rw [getD_set_same _ _ _ (by omega), e0]
    split <;> omega
  · simp only [if_true]
    rw [getD_set_ne _ _ _ _ (by omega), getD_set_same _ _ _ (by omega), getD_set_same _ _ _ (by simp; omega), e0, e1]
    split <;> omega
  · simp only [if_neg (show ¬ (1 : Int) = 2 by decide)]
    rw [getD_set_same _ _ _ (by omega), e0]
    split <;> omega
  · simp only [if_true]
    rw [getD_set_ne _ _ _ _ (by omega), getD_set_same _ _ _ (by omega), getD_set_same _ _ _ (by simp; omega), e0, e1]
    split <;> omega
theorem signed_want (hk : leastOf k ≤ mostOf k) (b : List UInt8) (p : Nat) : signed k (getB b p k) = if mostOf k < getB b p k then getB b p k + 2 * leastOf k else getB b p k := by
  obtain ⟨x0, x1⟩ := byte_lt b p
  obtain ⟨y0, y1⟩ := byte_lt b (p + 1)
  rcases kind_facts hk with ⟨a1, a2, a3⟩ | ⟨a1, a2, a3⟩ | ⟨a1, a2, a3⟩ | ⟨a1, a2, a3⟩
  all_goals
    unfold signed getB
    simp only [a1, a2, a3]
    simp only [if_true, if_neg (show ¬ (1 : Int) = 2 by decide)]
    split <;> omega
theorem getB_one (hw : wideOf k = 1) (b : List UInt8) (p : Nat) (h : p < b.length) : getB b p k = ((b[p]).toNat : Int) := by
  unfold getB; rw [if_neg (by omega), List.getD_eq_getElem?_getD, List.getElem?_eq_getElem h]; rfl
theorem getB_two (hw : wideOf k = 2) (b : List UInt8) (p : Nat) (h : p + 1 < b.length) : getB b p k = ((b[p]'(by omega)).toNat : Int) + 256 * ((b[p + 1]).toNat : Int) := by
  unfold getB; rw [if_pos hw, List.getD_eq_getElem?_getD, List.getElem?_eq_getElem (by omega), List.getD_eq_getElem?_getD, List.getElem?_eq_getElem h]; rfl
theorem get_range (hk : leastOf k ≤ mostOf k) (b : List UInt8) (p : Nat) : leastOf k ≤ signed k (getB b p k) ∧ signed k (getB b p k) ≤ mostOf k := by
  obtain ⟨x0, x1⟩ := byte_lt b p
  obtain ⟨y0, y1⟩ := byte_lt b (p + 1)
  rcases kind_facts hk with ⟨a1, a2, a3⟩ | ⟨a1, a2, a3⟩ | ⟨a1, a2, a3⟩ | ⟨a1, a2, a3⟩
  all_goals
    unfold signed getB
    simp only [a1, a2, a3]
    simp only [if_true, if_neg (show ¬ (1 : Int) = 2 by decide)]
    split <;> omega
theorem put_back (hk : leastOf k ≤ mostOf k) {n : Int} (hp : (p : Int) ≤ b.length - wideOf k) : putB (putB b p k n) p k (signed k (getB b p k)) = b := by
  obtain ⟨x0, x1⟩ := byte_lt b p
  obtain ⟨y0, y1⟩ := byte_lt b (p + 1)
  have one : wideOf k = 1 → signed k (getB b p k) % 256 = ((b.getD p 0).toNat : Int) := fun h => by
    unfold signed getB
    simp only [if_neg (show ¬ wideOf k = 2 by omega)]
    split <;> omega
  have two : wideOf k = 2 → signed k (getB b p k) % 256 = ((b.getD p 0).toNat : Int) ∧ signed k (getB b p k) / 256 % 256 = ((b.getD (p + 1) 0).toNat : Int) := fun h => by
    unfold signed getB
    simp only [if_pos h]
    constructor <;> split <;> omega
  rcases wide_or hk with hw | hw
  · have hb := byteN_of b p _ (one hw)
    unfold putB
    rw [if_neg (by omega), if_neg (by omega), hb, List.set_set, set_getD _ _ (by omega)]
  · have hb := byteN_of b p _ (two hw).1
    have hb2 := byteN_of b (p + 1) _ (two hw).2
    unfold putB
    rw [if_pos hw, if_pos hw, hb, hb2]
    rw [List.set_comm _ _ (show p + 1 ≠ p by omega), List.set_set, List.set_set, set_getD _ _ (by omega), set_getD _ _ (by omega)]
theorem put_else {n : Int} {i : Nat} (h : i < p ∨ p + wideOf k ≤ (i : Int)) (hw : 1 ≤ wideOf k) : (putB b p k n)[i]? = b[i]? := by
  unfold putB
  split
  · rw [List.getElem?_set_ne (by omega), List.getElem?_set_ne (by omega)]
  · rw [List.getElem?_set_ne (by omega)]
theorem putRes_ok {a n : Int} (h : (putRes b a k n).2 = 0) : leastOf k ≤ mostOf k ∧ (b.length : Int) ≤ 65536 ∧ 0 ≤ a ∧ a ≤ b.length - wideOf k ∧ leastOf k ≤ n ∧ n ≤ mostOf k ∧ putRes b a k n = (putB b a.toNat k n, 0) := by
  rcases Int.lt_or_le (mostOf k) (leastOf k) with h0 | h0
  · rw [putRes_kind h0] at h; simp at h
  rcases Int.lt_or_le 65536 (b.length : Int) with h1 | h1
  · rw [putRes_many h0 h1] at h; simp at h
  by_cases h2 : a < 0 ∨ (b.length : Int) - wideOf k < a
  · rw [putRes_who h0 h1 h2] at h; simp at h
  by_cases h4 : n < leastOf k ∨ mostOf k < n
  · rw [putRes_over h0 h1 (by omega) (by omega) h4] at h; simp at h
  exact ⟨h0, h1, by omega, by omega, by omega, by omega, putRes_fits h0 h1 (by omega) (by omega) (by omega) (by omega)⟩
end
end Go.Proofs.Ytjpkjcmphjnbhaa
