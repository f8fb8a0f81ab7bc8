/- ropewalklaw.FillMoved returns true, whatever the five numbers. -/
import Derived.Test.YtjpkjcmphjnbhaaFillX
import Derived.Test.YtjpkjcmphjnbhaaAt
namespace Go.Proofs.Ytjpkjcmphjnbhaa
open Go.RowKit

theorem moved_far {k a t d B : Int} (h : (valueRes k a t d).2 = 0) (h1 : (valueRes k (a + B) (t + B) d).2 = 0) : (valueRes k (a + B) (t + B) d).1 = if farOf k then (valueRes k a t d).1 else (valueRes k a t d).1 + B := by
  obtain ⟨_, _, _, _, _, _, _, e, _⟩ := valueRes_ok h
  obtain ⟨_, _, _, _, _, _, _, e1, _⟩ := valueRes_ok h1
  rw [e, e1]
  split <;> omega
theorem moved_add {k a t d B : Int} (h : (valueRes k a t d).2 = 0) : (valueRes k a (t + B) (d - B)).2 = 3 ∨ (valueRes k a (t + B) (d - B) = ((valueRes k a t d).1, 0)) := by
  obtain ⟨h0, a0, a1, t0, t1, d0, d1, e, e0, e1⟩ := valueRes_ok h
  by_cases hr : a < 0 ∨ a > 65536 ∨ t + B < 0 ∨ t + B > 65536 ∨ d - B < -10000 ∨ d - B > 10000
  · left; rw [valueRes_range h0 hr]
  · right
    refine valueRes_fits h0 hr ?_ (by omega)
    rw [e]
    split <;> omega

set_option maxRecDepth 100000 in
set_option maxHeartbeats 1000000 in
theorem fillMoved_err (k a t d B : Int) (w : World) (ha0 : -9223372036854775808 ≤ a) (ha1 : a ≤ 9223372036854775807) (h : (valueRes k a t d).2 ≠ 0) :
    Calls Try.prog 8 #[.int .i64 k, .int .i64 a, .int .i64 t, .int .i64 d, .int .i64 B] w fun e w' => e = .returned (.bool true) ∧ Below w.heap.size w w' := by
  have hne : ((valueRes k a t d).2 != 0) = true := by simpa using h
  clear h
  go_enter Try.func8, Try.ntmps8
  go_wp2_with fail
  refine (value_any k a t d w ha0 ha1).mono ?_
  rintro e w' ⟨rfl, rfl⟩
  go_wp2_with fail
  refine (putFact_any w).mono ?_
  rintro e w1 ⟨rfl, hb1⟩
  go_wp2_with fail
  refine (putFact_any w1).mono ?_
  rintro e w2 ⟨rfl, hb2⟩
  go_wp2
  go_ret
  exact ⟨rfl, hb1.trans (hb2.mono hb1.size)⟩

set_option maxRecDepth 100000 in
set_option maxHeartbeats 1000000 in
theorem fillMoved_ok (k a t d B0 : Int) (w : World) (hB0 : -9223372036854775808 ≤ B0) (hB1 : B0 ≤ 9223372036854775807) (h : (valueRes k a t d).2 = 0) :
    Calls Try.prog 8 #[.int .i64 k, .int .i64 a, .int .i64 t, .int .i64 d, .int .i64 B0] w fun e w' => e = .returned (.bool true) ∧ Below w.heap.size w w' := by
  obtain ⟨h0, a0, a1, t0, t1, d0, d1, hfst, e0, e1⟩ := valueRes_ok h
  clear hfst
  obtain ⟨B, hB⟩ : ∃ B, B0 % 100 = B := ⟨_, rfl⟩
  have b0 : 0 ≤ B := by omega
  have b1 : B < 100 := by omega
  have HB := Lib.hid hB
  have hF := fun h1 => moved_far (B := B) h h1
  have hA := moved_add (B := B) h
  obtain ⟨n, hn⟩ : ∃ n, valueRes k a t d = (n, 0) := ⟨_, Prod.ext rfl h⟩
  rw [hn] at e0 e1 hF hA
  simp only at e0 e1 hF hA
  obtain ⟨m, em, hm⟩ : ∃ m em, valueRes k (a + B) (t + B) d = (m, em) := ⟨_, _, rfl⟩
  rw [hm] at hF
  simp only at hF
  obtain ⟨m2, em2, hm2⟩ : ∃ m em, valueRes k a (t + B) (d - B) = (m, em) := ⟨_, _, rfl⟩
  rw [hm2] at hA
  simp only [Prod.mk.injEq] at hA
  have HN := Lib.hid hn
  have HM := Lib.hid hm
  have HM2 := Lib.hid hm2
  have HF := Lib.hid hF
  have HA := Lib.hid hA
  obtain ⟨lb0, lb1⟩ := least_bd k
  obtain ⟨mb0, mb1⟩ := most_bd k
  clear hn hm hm2 hF hA hB h
  have dn0 : decide (n < leastOf k) = false := by simpa using e0
  have dn1 : decide (mostOf k < n) = false := by simpa using e1
  have key : (em = 0 ∧ ((k = 3 ∧ m = n) ∨ (k = 4 ∧ m = n) ∨ (k ≠ 3 ∧ k ≠ 4 ∧ m = n + B))) ∨ em ≠ 0 := by
    by_cases he : em = 0
    · left
      refine ⟨he, ?_⟩
      have := HF.out he
      by_cases h3 : k = 3
      · left; subst h3; exact ⟨rfl, this⟩
      · by_cases h4 : k = 4
        · right; left; subst h4; exact ⟨rfl, this⟩
        · right; right
          have hf : farOf k = false := by simp [farOf, h3, h4]
          rw [hf] at this
          exact ⟨h3, h4, by simpa using this⟩
    · exact .inr he
  have hA2 := HA.out
  clear HF HA
  have bools : (k ≠ 3 → (k == 3) = false) ∧ (k ≠ 4 → (k == 4) = false) ∧ (em ≠ 0 → (em == 0) = false) := ⟨by simp, by simp, by simp⟩
  obtain ⟨bk3, bk4, bem⟩ := bools
  rcases key with ⟨rfl, ⟨rfl, rfl⟩ | ⟨rfl, rfl⟩ | ⟨h3, h4, rfl⟩⟩ | hem
  all_goals
    try have q3 := bk3 h3
    try have q4 := bk4 h4
    try have qe := bem hem
    clear bk3 bk4 bem
    rcases hA2 with rfl | ⟨rfl, rfl⟩
  all_goals
    try clear h3 h4
    try clear hem
    go_enter Try.func8, Try.ntmps8
    go_wp2_with fail
    refine (value_any _ a t d w (by omega) (by omega)).mono ?_
    rintro e w' ⟨rfl, rfl⟩
    rw [HN.out]
    go_wp2_with fail
    refine (putFact_any w).mono ?_
    rintro e w1 ⟨rfl, hb1⟩
    go_wp2_with fail
    refine (fillRange_any _ w1).mono ?_
    rintro e w' ⟨rfl, rfl⟩
    go_wp2_with fail
    refine (at_any B0 100 w1 (by omega) (by omega) hB0 hB1).mono ?_
    rintro e w2 ⟨rfl, rfl⟩
    rw [HB.out]
    go_wp2_with fail
    refine (value_any _ (a + B) (t + B) d w2 (by omega) (by omega)).mono ?_
    rintro e w' ⟨rfl, rfl⟩
    rw [HM.out]
    go_wp2_with fail
    refine (value_any _ a (t + B) (d - B) w2 (by omega) (by omega)).mono ?_
    rintro e w' ⟨rfl, rfl⟩
    rw [HM2.out]
    go_wp2
    go_ret
    exact ⟨rfl, hb1⟩
end Go.Proofs.Ytjpkjcmphjnbhaa
