/- Numbers in places: what fill's functions say, as plain data. No program in sight. -/
import Derived.Test.YtbonpilpmjghbaaMem
set_option linter.all false
namespace Go.Proofs.Ytbonpilpmjghbaa
open Go.RowKit

def leastOf (k : Int) : Int := if k = 1 then 0 else if k = 2 then 0 else if k = 3 then -128 else if k = 4 then -32768 else 1
def mostOf (k : Int) : Int := if k = 1 then 255 else if k = 2 then 65535 else if k = 3 then 127 else if k = 4 then 32767 else 0
def wideOf (k : Int) : Int := if k = 1 then 1 else if k = 3 then 1 else if k = 2 then 2 else if k = 4 then 2 else 0

/-- The four kinds, and all others. -/
theorem kinds_split (k : Int) : k = 1 ∨ k = 2 ∨ k = 3 ∨ k = 4 ∨ (k ≠ 1 ∧ k ≠ 2 ∧ k ≠ 3 ∧ k ≠ 4) := by omega
theorem least_le (k : Int) (h : leastOf k ≤ mostOf k) : k = 1 ∨ k = 2 ∨ k = 3 ∨ k = 4 := by
  rcases kinds_split k with h1 | h1 | h1 | h1 | ⟨h1, h2, h3, h4⟩
  · exact .inl h1
  · exact .inr (.inl h1)
  · exact .inr (.inr (.inl h1))
  · exact .inr (.inr (.inr h1))
  · simp [leastOf, mostOf, h1, h2, h3, h4] at h
theorem least_bd (k : Int) : -32768 ≤ leastOf k ∧ leastOf k ≤ 1 := by unfold leastOf; (repeat' split) <;> omega
theorem most_bd (k : Int) : 0 ≤ mostOf k ∧ mostOf k ≤ 65535 := by unfold mostOf; (repeat' split) <;> omega

def farOf (k : Int) : Bool := k == 3 || k == 4
def valueRes (k a t d : Int) : Int × Int :=
  if mostOf k < leastOf k then (0, 4)
  else if a < 0 ∨ a > 65536 ∨ t < 0 ∨ t > 65536 ∨ d < -10000 ∨ d > 10000 then (0, 3)
  else if (if farOf k then t + d - a else t + d) < leastOf k ∨ (if farOf k then t + d - a else t + d) > mostOf k then (0, 9)
  else ((if farOf k then t + d - a else t + d), 0)

theorem valueRes_kind {k a t d : Int} (h : mostOf k < leastOf k) : valueRes k a t d = (0, 4) := by unfold valueRes; rw [if_pos h]
theorem valueRes_range {k a t d : Int} (h : leastOf k ≤ mostOf k) (h1 : a < 0 ∨ a > 65536 ∨ t < 0 ∨ t > 65536 ∨ d < -10000 ∨ d > 10000) : valueRes k a t d = (0, 3) := by
  unfold valueRes; rw [if_neg (by omega), if_pos h1]
theorem valueRes_over {k a t d n : Int} (h : leastOf k ≤ mostOf k) (h1 : ¬ (a < 0 ∨ a > 65536 ∨ t < 0 ∨ t > 65536 ∨ d < -10000 ∨ d > 10000)) (hn : n = if farOf k then t + d - a else t + d)
    (h2 : n < leastOf k ∨ n > mostOf k) : valueRes k a t d = (0, 9) := by
  unfold valueRes; rw [if_neg (by omega), if_neg h1, ← hn, if_pos h2]
theorem valueRes_fits {k a t d n : Int} (h : leastOf k ≤ mostOf k) (h1 : ¬ (a < 0 ∨ a > 65536 ∨ t < 0 ∨ t > 65536 ∨ d < -10000 ∨ d > 10000)) (hn : n = if farOf k then t + d - a else t + d)
    (h2 : ¬ (n < leastOf k ∨ n > mostOf k)) : valueRes k a t d = (n, 0) := by
  unfold valueRes; rw [if_neg (by omega), if_neg h1, ← hn, if_neg h2]
theorem valueRes_ok {k a t d : Int} (h : (valueRes k a t d).2 = 0) :
    leastOf k ≤ mostOf k ∧ 0 ≤ a ∧ a ≤ 65536 ∧ 0 ≤ t ∧ t ≤ 65536 ∧ -10000 ≤ d ∧ d ≤ 10000 ∧ (valueRes k a t d).1 = (if farOf k then t + d - a else t + d) ∧
      leastOf k ≤ (valueRes k a t d).1 ∧ (valueRes k a t d).1 ≤ mostOf k := by
  rcases Int.lt_or_le (mostOf k) (leastOf k) with h0 | h0
  · rw [valueRes_kind h0] at h; simp at h
  · by_cases h1 : a < 0 ∨ a > 65536 ∨ t < 0 ∨ t > 65536 ∨ d < -10000 ∨ d > 10000
    · rw [valueRes_range h0 h1] at h; simp at h
    · by_cases h2 : (if farOf k then t + d - a else t + d) < leastOf k ∨ (if farOf k then t + d - a else t + d) > mostOf k
      · rw [valueRes_over h0 h1 rfl h2] at h; simp at h
      · rw [valueRes_fits h0 h1 rfl h2]
        refine ⟨h0, by omega, by omega, by omega, by omega, by omega, by omega, rfl, ?_, ?_⟩
        · show leastOf k ≤ _; omega
        · show _ ≤ mostOf k; omega

theorem wide_bd (k : Int) : 0 ≤ wideOf k ∧ wideOf k ≤ 2 := by unfold wideOf; (repeat' split) <;> omega
/-! ### bytes -/
def byteN (n : Int) : UInt8 := UInt8.ofNat (n % 256).toNat
theorem byteN_toNat (n : Int) : ((byteN n).toNat : Int) = n % 256 := by
  unfold byteN
  rw [UInt8.toNat_ofNat']
  omega
def putB (b : List UInt8) (p : Nat) (k n : Int) : List UInt8 :=
  if wideOf k = 2 then (b.set p (byteN n)).set (p + 1) (byteN (n / 256)) else b.set p (byteN n)
def putRes (b : List UInt8) (a k n : Int) : List UInt8 × Int :=
  if mostOf k < leastOf k then ([], 4) else if (b.length : Int) > 65536 then ([], 2)
  else if a < 0 ∨ a > b.length - wideOf k then ([], 5) else if n < leastOf k ∨ n > mostOf k then ([], 9)
  else (putB b a.toNat k n, 0)
def getB (b : List UInt8) (p : Nat) (k : Int) : Int :=
  if wideOf k = 2 then ((b.getD p 0).toNat : Int) + 256 * ((b.getD (p + 1) 0).toNat : Int) else ((b.getD p 0).toNat : Int)
def signed (k m : Int) : Int := if m > mostOf k then m - (if wideOf k = 2 then 65536 else 256) else m
def getRes (b : List UInt8) (a k : Int) : Int × Int :=
  if mostOf k < leastOf k then (0, 4) else if (b.length : Int) > 65536 then (0, 2)
  else if a < 0 ∨ a > b.length - wideOf k then (0, 5) else (signed k (getB b a.toNat k), 0)
theorem putB_len (b : List UInt8) (p : Nat) (k n : Int) : (putB b p k n).length = b.length := by unfold putB; split <;> simp
theorem bytesV_set (b : List UInt8) (p : Nat) (n : Int) : bytesV (b.set p (byteN n)) = (bytesV b).set p (.int .u8 (n % 256)) := by
  unfold bytesV
  rw [List.map_set]
  congr 1
  unfold byteV
  rw [byteN_toNat]
theorem putB_one {b : List UInt8} {p : Nat} {k n : Int} (h : wideOf k = 1) : bytesV (putB b p k n) = (bytesV b).set p (.int .u8 (n % 256)) := by
  unfold putB; rw [if_neg (by omega), bytesV_set]
theorem putB_two {b : List UInt8} {p : Nat} {k n : Int} (h : wideOf k = 2) : bytesV (putB b p k n) = ((bytesV b).set p (.int .u8 (n % 256))).set (p + 1) (.int .u8 (n / 256 % 256)) := by
  unfold putB; rw [if_pos h, bytesV_set, bytesV_set]
theorem wide_or {k : Int} (h : leastOf k ≤ mostOf k) : wideOf k = 1 ∨ wideOf k = 2 := by
  rcases least_le k h with rfl | rfl | rfl | rfl <;> decide
section
variable {b : List UInt8} {a k n : Int}
theorem putRes_kind (h : mostOf k < leastOf k) : putRes b a k n = ([], 4) := by unfold putRes; rw [if_pos h]
theorem putRes_many (h : leastOf k ≤ mostOf k) (h1 : 65536 < (b.length : Int)) : putRes b a k n = ([], 2) := by unfold putRes; rw [if_neg (by omega), if_pos (by omega)]
theorem putRes_who (h : leastOf k ≤ mostOf k) (h1 : (b.length : Int) ≤ 65536) (h2 : a < 0 ∨ (b.length : Int) - wideOf k < a) : putRes b a k n = ([], 5) := by
  unfold putRes; rw [if_neg (by omega), if_neg (by omega), if_pos (by omega)]
theorem putRes_over (h : leastOf k ≤ mostOf k) (h1 : (b.length : Int) ≤ 65536) (h2 : 0 ≤ a) (h3 : a ≤ (b.length : Int) - wideOf k) (h4 : n < leastOf k ∨ mostOf k < n) : putRes b a k n = ([], 9) := by
  unfold putRes; rw [if_neg (by omega), if_neg (by omega), if_neg (by omega), if_pos (by omega)]
theorem putRes_fits (h : leastOf k ≤ mostOf k) (h1 : (b.length : Int) ≤ 65536) (h2 : 0 ≤ a) (h3 : a ≤ (b.length : Int) - wideOf k) (h4 : leastOf k ≤ n) (h5 : n ≤ mostOf k) : putRes b a k n = (putB b a.toNat k n, 0) := by
  unfold putRes; rw [if_neg (by omega), if_neg (by omega), if_neg (by omega), if_neg (by omega)]
theorem getRes_kind (h : mostOf k < leastOf k) : getRes b a k = (0, 4) := by unfold getRes; rw [if_pos h]
theorem getRes_many (h : leastOf k ≤ mostOf k) (h1 : 65536 < (b.length : Int)) : getRes b a k = (0, 2) := by unfold getRes; rw [if_neg (by omega), if_pos (by omega)]
theorem getRes_who (h : leastOf k ≤ mostOf k) (h1 : (b.length : Int) ≤ 65536) (h2 : a < 0 ∨ (b.length : Int) - wideOf k < a) : getRes b a k = (0, 5) := by
  unfold getRes; rw [if_neg (by omega), if_neg (by omega), if_pos (by omega)]
theorem getRes_fits (h : leastOf k ≤ mostOf k) (h1 : (b.length : Int) ≤ 65536) (h2 : 0 ≤ a) (h3 : a ≤ (b.length : Int) - wideOf k) : getRes b a k = (signed k (getB b a.toNat k), 0) := by
  unfold getRes; rw [if_neg (by omega), if_neg (by omega), if_neg (by omega)]
end
end Go.Proofs.Ytbonpilpmjghbaa
