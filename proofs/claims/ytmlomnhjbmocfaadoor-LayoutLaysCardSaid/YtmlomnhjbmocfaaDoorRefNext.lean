/- ropewalkref.next: the next address that is divided. -/
import Derived.Test.YtmlomnhjbmocfaaDoorB1
set_option linter.all false
namespace Go.Proofs.YtmlomnhjbmocfaaDoor
open Go.RowKit

theorem upN_least {a b n : Nat} (hn : 0 < n) (h : a ≤ b) (hb : b % n = 0) : upN a n ≤ b := by
  unfold upN
  obtain ⟨q, rfl⟩ := Nat.dvd_of_mod_eq_zero hb
  have h1 : (a + n - 1) / n < q + 1 := Nat.div_lt_of_lt_mul (by rw [Nat.mul_succ]; omega)
  rw [Nat.mul_comm n q]
  exact Nat.mul_le_mul_right _ (by omega)
set_option maxHeartbeats 1000000 in
theorem next_any (a n : Nat) (w : World) (ha : a ≤ 1000000) (hn : 0 < n) (hn2 : n ≤ 1000) : Calls Tryd.prog 35 #[.int .i64 a, .int .i64 n] w fun e w' => e = .returned (.int .i64 (upN a n)) ∧ w' = w := by
  have u1 := upN_lt a n hn
  have u2 := upN_le a n hn
  have u3 := upN_mod a n
  have u4 : ∀ b, a ≤ b → b % n = 0 → upN a n ≤ b := fun b h1 h2 => upN_least hn h1 h2
  obtain ⟨u, hu⟩ : ∃ u, upN a n = u := ⟨_, rfl⟩
  rw [hu] at u1 u2 u3 u4 ⊢
  have hnz : ((n : Int) == 0) = false := beq_eq_false_iff_ne.2 (by omega)
  have U3 := Lib.hid u3
  have U4 := Lib.hid u4
  clear hu u3 u4
  go_enter Tryd.func35, Tryd.ntmps35
  go_wp2
  go_loopw [0] (fun v wr => ∃ b : Nat, v = .int .i64 b ∧ a ≤ b ∧ b ≤ u ∧ wr = w) (fun v _ => u - (intOf v).toNat)
  case atStart => exact ⟨a, rfl, Nat.le_refl _, u2, rfl⟩
  case round =>
    obtain ⟨b, rfl, h1, h2, rfl⟩ := hrel
    by_cases hm : b % n = 0
    · obtain rfl : b = u := Nat.le_antisymm h2 (U4.out b h1 hm)
      have t1 : ((b : Int) % (n : Int) != 0) = false := by rw [show (b : Int) % (n : Int) = ((b % n : Nat) : Int) from rfl, hm]; rfl
      clear hm
      go_wp2
      go_ret
      exact ⟨rfl, rfl⟩
    · have hbu : b < u := Nat.lt_of_le_of_ne h2 (fun e => hm (by rw [e]; exact U3.out))
      have t1 : ((b : Int) % (n : Int) != 0) = true := by rw [show (b : Int) % (n : Int) = ((b % n : Nat) : Int) from rfl]; simp; omega
      clear hm
      go_wp2
      go_roundw
      case rel => exact ⟨b + 1, by go_num, by omega, by omega, trivial⟩
      case measure => simp [intOf]; omega
end Go.Proofs.YtmlomnhjbmocfaaDoor
