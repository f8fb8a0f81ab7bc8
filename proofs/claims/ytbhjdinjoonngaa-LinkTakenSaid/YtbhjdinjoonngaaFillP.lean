/- fill.Get: what it computes. -/
import Derived.Test.YtbhjdinjoonngaaLkF
import Derived.Test.YtbhjdinjoonngaaBA
import Derived.Laws.BitsAllLaws
import Derived.Laws.BitsLemmas
set_option linter.all false
namespace Go.Proofs.Ytbhjdinjoonngaa
open Go.RowKit

theorem ofInt_i64 (a : Nat) (ha : a < 9223372036854775808) : (BitVec.ofInt 64 (a : Int)).toNat = a := by
  rw [BitVec.ofInt_natCast, BitVec.toNat_ofNat]; exact Nat.mod_eq_of_lt (by omega)
theorem i64_or_nat (a b : Nat) (ha : a < 9223372036854775808) (hb : b < 9223372036854775808) : bits .or .i64 (a : Int) (b : Int) = ((a ||| b : Nat) : Int) := by
  have hx : a ||| b < 2 ^ 63 := Nat.or_lt_two_pow (by omega) (by omega)
  show IntKind.i64.wrap ((BitVec.ofInt 64 (a : Int) ||| BitVec.ofInt 64 (b : Int)).toNat : Int) = _
  rw [BitVec.toNat_or, ofInt_i64 a ha, ofInt_i64 b hb, IntKind.wrap_i64]
  omega
theorem or_zero (x : Nat) (h : x ≤ 255) : bits .or .i64 0 (x : Int) = (x : Int) := by
  have := i64_or_nat 0 x (by omega) (by omega)
  simpa using this
theorem or_high (x y : Nat) (hx : x ≤ 255) (hy : y ≤ 255) : bits .or .i64 (x : Int) ((y : Int) * 256) = (x : Int) + 256 * (y : Int) := by
  have h := i64_or_nat x (y * 256) (by omega) (by omega)
  have h1 : y <<< 8 + x = y <<< 8 ||| x := Nat.shiftLeft_add_eq_or_of_lt (show x < 2 ^ 8 by omega) y
  have h2 : y <<< 8 = y * 256 := by rw [Nat.shiftLeft_eq]
  rw [h2] at h1
  have e : x ||| y * 256 = x + 256 * y := by rw [Nat.or_comm, ← h1, Nat.mul_comm, Nat.add_comm]
  rw [e] at h
  rw [show ((y : Int) * 256) = ((y * 256 : Nat) : Int) from by omega, h]
  omega

set_option maxHeartbeats 1000000 in
theorem get_1 (k a : Int) (A : Option Addr) (c : Nat) (b : List UInt8) (w : World) (h : Reads w w.heap.size 1 A b.length (bytesV b)) (h0 : leastOf k ≤ mostOf k) (hl : b.length ≤ 65536) (hw : wideOf k = 1) (ha0 : 0 ≤ a) (ha1 : a ≤ b.length - 1) :
    Calls Try.prog 59 #[.slice A b.length c, .int .i64 a, .int .i64 k] w fun e w' => e = .returned (.tuple #[.int .i64 (signed k (getB b a.toNat k)), .int .i64 0]) ∧ w = w' := by
  obtain ⟨bb, off, u, rfl, hbl, hu, hcu⟩ := h.at_ (k := a.toNat) (by omega)
  rw [bytesV_get (by omega)] at hu
  cases hu
  have hWD := fun W => wide_any k W
  rw [hw] at hWD
  obtain ⟨lb0, lb1⟩ := least_bd k
  obtain ⟨mb0, mb1⟩ := most_bd k
  have hget : getB b a.toNat k = ((b[a.toNat]'(by omega)).toNat : Int) := by
    unfold getB; rw [if_neg (by omega), List.getD_eq_getElem?_getD, List.getElem?_eq_getElem (by omega)]; rfl
  have hsg : ∀ m, signed k m = if m > mostOf k then m - 256 else m := fun m => by unfold signed; rw [if_neg (show ¬ wideOf k = 2 by omega)]
  obtain ⟨x, hx⟩ : ∃ x : Nat, (b[a.toNat]'(by omega)).toNat = x := ⟨_, rfl⟩
  have hx1 : x ≤ 255 := by have := (b[a.toNat]'(by omega)).toNat_lt; omega
  rw [hx] at hcu hget
  have HG := Lib.hid hget
  have HS := Lib.hid hsg
  have hor := or_zero x hx1
  clear hx hget hsg hw
  go_enter Try.func59, Try.ntmps59
  go_wp2_with (first | (go_at_call 110; refine (fillRange_any _ _).mono ?_; rintro e w' ⟨rfl, rfl⟩) | (go_at_call 60; refine (hWD _).mono ?_; rintro e w' ⟨rfl, rfl⟩))
  go_rounds 2
  all_goals
    go_ret2
    exact ⟨ret_val (by rw [HG.out, HS.out]; first | (rw [if_pos (by omega)]; rfl) | (rw [if_neg (by omega)]; rfl)), rfl⟩

set_option maxHeartbeats 1000000 in
theorem get_2 (k a : Int) (A : Option Addr) (c : Nat) (b : List UInt8) (w : World) (h : Reads w w.heap.size 1 A b.length (bytesV b)) (h0 : leastOf k ≤ mostOf k) (hl : b.length ≤ 65536) (hw : wideOf k = 2) (ha0 : 0 ≤ a) (ha1 : a ≤ b.length - 2) :
    Calls Try.prog 59 #[.slice A b.length c, .int .i64 a, .int .i64 k] w fun e w' => e = .returned (.tuple #[.int .i64 (signed k (getB b a.toNat k)), .int .i64 0]) ∧ w = w' := by
  obtain ⟨bb, off, rfl, hbl, hcs⟩ := h.2 (by omega)
  have hcu := hcs a.toNat _ (bytesV_get (by omega))
  have hcv := hcs (a.toNat + 1) _ (bytesV_get (by omega))
  have ea : a.toNat + 1 = (a + 1).toNat := by omega
  have hWD := fun W => wide_any k W
  rw [hw] at hWD
  obtain ⟨lb0, lb1⟩ := least_bd k
  obtain ⟨mb0, mb1⟩ := most_bd k
  have hget : getB b a.toNat k = ((b[a.toNat]'(by omega)).toNat : Int) + 256 * ((b[a.toNat + 1]'(by omega)).toNat : Int) := by
    unfold getB; rw [if_pos hw, List.getD_eq_getElem?_getD, List.getElem?_eq_getElem (by omega), List.getD_eq_getElem?_getD, List.getElem?_eq_getElem (by omega)]; rfl
  have hsg : ∀ m, signed k m = if m > mostOf k then m - 65536 else m := fun m => by unfold signed; rw [if_pos hw]
  obtain ⟨x, hx⟩ : ∃ x : Nat, (b[a.toNat]'(by omega)).toNat = x := ⟨_, rfl⟩
  have hx1 : x ≤ 255 := by have := (b[a.toNat]'(by omega)).toNat_lt; omega
  obtain ⟨y, hy⟩ : ∃ y : Nat, (b[a.toNat + 1]'(by omega)).toNat = y := ⟨_, rfl⟩
  have hy1 : y ≤ 255 := by have := (b[a.toNat + 1]'(by omega)).toNat_lt; omega
  rw [hx] at hcu hget
  rw [hy] at hcv hget
  rw [ea] at hcv
  have HG := Lib.hid hget
  have HS := Lib.hid hsg
  have hor := or_zero x hx1
  have hor2 := or_high x y hx1 hy1
  clear hx hy hget hsg hw ea hcs
  go_enter Try.func59, Try.ntmps59
  go_wp2_with (first | (go_at_call 110; refine (fillRange_any _ _).mono ?_; rintro e w' ⟨rfl, rfl⟩) | (go_at_call 60; refine (hWD _).mono ?_; rintro e w' ⟨rfl, rfl⟩))
  go_rounds 3
  all_goals
    go_ret2
    exact ⟨ret_val (by rw [HG.out, HS.out]; first | (rw [if_pos (by omega)]; rfl) | (rw [if_neg (by omega)]; rfl)), rfl⟩
end Go.Proofs.Ytbhjdinjoonngaa
