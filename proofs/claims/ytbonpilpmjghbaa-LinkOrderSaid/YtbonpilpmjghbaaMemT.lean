/- More words for memory: beginnings of slices, blocks cell by cell. No program in sight. -/
import Derived.Test.YtbonpilpmjghbaaOpen
set_option linter.all false
namespace Go.Proofs.Ytbonpilpmjghbaa
open Go.RowKit

theorem Reads.take {w : World} {B size n : Nat} {A : Option Addr} {xs : List Value} (h : Reads w B size A n xs) {k : Nat} (hk : k ≤ n) : Reads w B size A k (xs.take (k * size)) := by
  refine ⟨by rw [List.length_take, h.1]; exact Nat.min_eq_left (Nat.mul_le_mul_right _ hk), fun h0 => ?_⟩
  obtain ⟨b, off, e, hb, hc⟩ := h.2 (by omega)
  refine ⟨b, off, e, hb, fun j u hu => hc j u ?_⟩
  rw [List.getElem?_take] at hu
  split at hu
  · exact hu
  · cases hu
theorem flatMap_take {α : Type} {cells : α → List Value} {k : Nat} (hlen : ∀ a, (cells a).length = k) (l : List α) (n : Nat) : (l.take n).flatMap cells = (l.flatMap cells).take (n * k) := by
  induction l generalizing n with
  | nil => simp
  | cons x r ih =>
    rcases n with _ | n
    · simp
    · have e : (n + 1) * k = (cells x).length + n * k := by rw [hlen, Nat.succ_mul, Nat.add_comm]
      rw [List.take_succ_cons, List.flatMap_cons, List.flatMap_cons, ih, e, List.take_length_add_append]
theorem reads_cut {α : Type} {cells : α → List Value} {k : Nat} (hlen : ∀ a, (cells a).length = k) {w : World} {B : Nat} {A : Option Addr} {l : List α} (h : Reads w B k A l.length (l.flatMap cells)) {n : Nat} (hn : n ≤ l.length) :
    Reads w B k A n ((l.take n).flatMap cells) := by
  rw [flatMap_take hlen]; exact h.take hn
theorem intsV_flat (l : List Int) : intsV l = l.flatMap (fun n : Int => [.int .i64 n]) := by
  induction l with
  | nil => rfl
  | cons b l ih => rw [List.flatMap_cons, ← ih]; rfl
end Go.Proofs.Ytbonpilpmjghbaa
