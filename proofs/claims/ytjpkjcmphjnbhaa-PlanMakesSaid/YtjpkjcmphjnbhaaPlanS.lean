/- slices.Clip, slices.IsSorted at ints: what they compute. -/
import Derived.Test.YtjpkjcmphjnbhaaLoadR
import Derived.Test.YtjpkjcmphjnbhaaSl
namespace Go.Proofs.Ytjpkjcmphjnbhaa
open Go.RowKit

/-- A value is a slice of n elements that reads as xs. -/
def RowAt (w : World) (v : Value) (size n : Nat) (xs : List Value) : Prop := ∃ A c, v = .slice A n c ∧ n ≤ c ∧ Reads w w.heap.size size A n xs
theorem RowAt.nil (w : World) (size : Nat) : RowAt w (.slice none 0 0) size 0 [] := ⟨none, 0, rfl, Nat.le_refl _, Reads.none_⟩
theorem RowAt.of_own {w : World} {base size n : Nat} {e : TypeId} {v : Value} {xs : List Value} (h : w.ownsRow base e size v n xs) : RowAt w v size n xs := by
  rcases h.2 with ⟨rfl, rfl⟩ | ⟨g, cap, cur, rfl, _, _, hc, _⟩
  · have hx : xs = [] := List.eq_nil_of_length_eq_zero (by simpa using h.1)
    subst hx
    exact RowAt.nil w size
  · exact ⟨_, _, rfl, hc, Reads.of_own h⟩

theorem quiet_stay {P : Program} {f : FuncId} {args : Array Value} {w : World} {n : Nat} {v : Value}
    (h : Calls P f args (w.drewN n) fun e w' => e = .returned v ∧ w.drewN n = w') : Calls P f args (w.drewN n) fun e w'' => e = .returned v ∧ ∃ m, w'' = w.drewN m :=
  h.mono fun _ _ ⟨he, hm⟩ => ⟨he, n, hm.symm⟩

set_option maxHeartbeats 1000000 in
theorem clip_any (A : Option Addr) (n c : Nat) (xs : List Value) (w : World) (h : Reads w w.heap.size 1 A n xs) (hc : n ≤ c) :
    Calls Try.prog 40 #[.slice A n c] w fun e w' => e = .returned (.slice A n n) ∧ w = w' := by
  go_enter Try.func40, Try.ntmps40
  go_wp2
  go_ret
  exact ⟨rfl, rfl⟩

set_option maxHeartbeats 1000000 in
theorem less_any (a b : Int) (w : World) :
    Calls Try.prog 41 #[.int .i64 a, .int .i64 b] w fun e w' => e = .returned (.bool (decide (a < b))) ∧ w = w' := by
  have h1 : (a != a) = false := by simp
  have h2 : (b != b) = false := by simp
  go_enter Try.func41, Try.ntmps41
  go_wp2
  go_ret
  exact ⟨rfl, rfl⟩

set_option maxHeartbeats 1000000 in
theorem isSorted_any (A : Option Addr) (c : Nat) (l : List Int) (w : World) (h : Reads w w.heap.size 1 A l.length (intsV l)) (hm : l.length ≤ 9223372036854775807) (hs : ∀ i a b, l[i]? = some a → l[i + 1]? = some b → a ≤ b) :
    Calls Try.prog 34 #[.slice A l.length c] w fun e w' => e = .returned (.bool true) ∧ Below w.heap.size w w' := by
  have HS := Lib.hid hs
  clear hs
  go_enter Try.func34, Try.ntmps34
  go_wp2
  go_loopw [3] (fun i wr => ∃ k : Nat, k ≤ l.length ∧ i = .int .i64 ((k : Int) - 1) ∧ Below w.heap.size w wr) (fun i _ => (intOf i).toNat)
  case atStart => exact ⟨l.length, Nat.le_refl _, rfl, Below.refl _ _⟩
  case round =>
    obtain ⟨k, hk, rfl, hb⟩ := hrel
    by_cases hlt : 2 ≤ k
    · obtain ⟨j, rfl⟩ : ∃ j, k = j + 2 := ⟨k - 2, by omega⟩
      have e1 : ((j + 2 : Nat) : Int) - 1 = ((j + 1 : Nat) : Int) := by omega
      rw [e1]
      obtain ⟨b, off, u, rfl, _, hu, hc⟩ := (h.below hb).at_ (k := j + 1) (by omega)
      rw [show (intsV l)[j + 1]? = some (intV (l[j + 1]'(by omega))) by simp [intsV, show j + 1 < l.length by omega]] at hu
      cases hu
      obtain ⟨b', off', u, he, _, hu, hc'⟩ := (h.below hb).at_ (k := j) (by omega)
      cases he
      rw [show (intsV l)[j]? = some (intV (l[j]'(by omega))) by simp [intsV, show j < l.length by omega]] at hu
      cases hu
      have hle := HS.out j _ _ (List.getElem?_eq_getElem (by omega)) (List.getElem?_eq_getElem (by omega))
      obtain ⟨x, hx⟩ : ∃ x, l[j + 1]'(by omega) = x := ⟨_, rfl⟩
      obtain ⟨y, hy⟩ : ∃ y, l[j]'(by omega) = y := ⟨_, rfl⟩
      rw [hx] at hc hle
      rw [hy] at hc' hle
      clear hx hy
      unfold intV at hc hc'
      have hd : decide (x < y) = false := by simpa using hle
      have e2 : ((j + 1 : Nat) : Int) - 1 = (j : Int) := by omega
      go_wp2_with fail
      go_quiet ((go_at_call 41; exact quiet_stay (less_any _ _ _)))
      go_wp2
      go_roundw
      case rel => exact ⟨j + 1, by omega, by go_num, by (repeat' (first | exact Below.refl _ _ | assumption | refine Below.setCell ?_ (by first | omega | exact Below.size (by assumption) | (simp; done) | (simp; omega)) _ | refine Below.alloc ?_ (by first | omega | exact Below.size (by assumption) | (simp; done) | (simp; omega)) _ | refine Below.drew ?_ | refine below_drewN ?_ _))⟩
      case measure => simp [intOf]
    · go_wp2
      go_ret
      exact ⟨rfl, hb⟩
end Go.Proofs.Ytjpkjcmphjnbhaa
