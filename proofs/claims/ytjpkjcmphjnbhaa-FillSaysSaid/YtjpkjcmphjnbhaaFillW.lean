/- fill.Range, fill.Value, obj.Wide: what they compute. -/
import Derived.Test.YtjpkjcmphjnbhaaFillD
import Derived.Test.YtjpkjcmphjnbhaaMapLit
import Derived.Test.YtjpkjcmphjnbhaaLoadB
import Derived.Handy
namespace Go.Proofs.Ytjpkjcmphjnbhaa
open Go.RowKit

set_option maxHeartbeats 400000 in
theorem fillRange_any (k : Int) (w : World) :
    Calls Try.prog 21 #[.int .i64 k] w fun e w' => e = .returned (.tuple #[.int .i64 (leastOf k), .int .i64 (mostOf k)]) ∧ w = w' := by
  rcases kinds_split k with rfl | rfl | rfl | rfl | ⟨h1, h2, h3, h4⟩
  · go_enter Try.func21, Try.ntmps21
    go_wp2
    go_ret2
    exact ⟨rfl, rfl⟩
  · go_enter Try.func21, Try.ntmps21
    go_wp2
    go_ret2
    exact ⟨rfl, rfl⟩
  · go_enter Try.func21, Try.ntmps21
    go_wp2
    go_ret2
    exact ⟨rfl, rfl⟩
  · go_enter Try.func21, Try.ntmps21
    go_wp2
    go_ret2
    exact ⟨rfl, rfl⟩
  · have b1 : (k == 1) = false := by simpa using h1
    have b2 : (k == 2) = false := by simpa using h2
    have b3 : (k == 3) = false := by simpa using h3
    have b4 : (k == 4) = false := by simpa using h4
    have e1 : leastOf k = 1 := by simp [leastOf, h1, h2, h3, h4]
    have e2 : mostOf k = 0 := by simp [mostOf, h1, h2, h3, h4]
    have E1 := Lib.hid e1
    have E2 := Lib.hid e2
    clear e1 e2 h1 h2 h3 h4
    go_enter Try.func21, Try.ntmps21
    go_wp2
    go_ret2
    exact ⟨ret_val (by rw [E1.out, E2.out]; rfl), rfl⟩

set_option maxHeartbeats 400000 in
theorem wide_any (k : Int) (w : World) :
    Calls Try.prog 30 #[.int .i64 k] w fun e w' => e = .returned (.int .i64 (wideOf k)) ∧ w = w' := by
  rcases kinds_split k with rfl | rfl | rfl | rfl | ⟨h1, h2, h3, h4⟩
  · go_enter Try.func30, Try.ntmps30
    go_wp2
    go_ret
    exact ⟨rfl, rfl⟩
  · go_enter Try.func30, Try.ntmps30
    go_wp2
    go_ret
    exact ⟨rfl, rfl⟩
  · go_enter Try.func30, Try.ntmps30
    go_wp2
    go_ret
    exact ⟨rfl, rfl⟩
  · go_enter Try.func30, Try.ntmps30
    go_wp2
    go_ret
    exact ⟨rfl, rfl⟩
  · have b1 : (k == 1) = false := by simpa using h1
    have b2 : (k == 2) = false := by simpa using h2
    have b3 : (k == 3) = false := by simpa using h3
    have b4 : (k == 4) = false := by simpa using h4
    have e1 : wideOf k = 0 := by simp [wideOf, h1, h2, h3, h4]
    have E1 := Lib.hid e1
    clear e1 h1 h2 h3 h4
    go_enter Try.func30, Try.ntmps30
    go_wp2
    go_ret
    exact ⟨ret_val (by rw [E1.out]; rfl), rfl⟩

set_option maxHeartbeats 1000000 in
theorem value_any (k a t d : Int) (w : World) (ha0 : -9223372036854775808 ≤ a) (ha1 : a ≤ 9223372036854775807) :
    Calls Try.prog 22 #[.int .i64 k, .int .i64 a, .int .i64 t, .int .i64 d] w fun e w' => e = .returned (.tuple #[.int .i64 (valueRes k a t d).1, .int .i64 (valueRes k a t d).2]) ∧ w = w' := by
  have i0 : ∀ w, (Instr.index 71 (.agg #[.int .i64 a, .int .i64 t]) (.int .i64 0)).run Try.prog w = .ok (.int .i64 a) w := fun _ => by kernel_rfl
  have i1 : ∀ w, (Instr.index 71 (.agg #[.int .i64 a, .int .i64 t]) (.int .i64 1)).run Try.prog w = .ok (.int .i64 t) w := fun _ => by kernel_rfl
  obtain ⟨lb0, lb1⟩ := least_bd k
  obtain ⟨mb0, mb1⟩ := most_bd k
  rcases Int.lt_or_le (mostOf k) (leastOf k) with h0 | h0
  · have HF := Lib.hid (valueRes_kind (a := a) (t := t) (d := d) h0)
    go_enter Try.func22, Try.ntmps22
    go_wp2_with (go_at_call 21; refine (fillRange_any _ _).mono ?_; rintro e w' ⟨rfl, rfl⟩)
    go_ret2
    exact ⟨ret_val (by rw [HF.out]; rfl), rfl⟩
  · rcases Decidable.em (k = 3) with rfl | h3
    · have HN := Lib.hid (show t + d - a = if farOf 3 then t + d - a else t + d from rfl)
      go_enter Try.func22, Try.ntmps22
      (go_wp2_with (go_at_call 21; refine (fillRange_any _ _).mono ?_; rintro e w' ⟨rfl, rfl⟩))
      go_rounds 3
      all_goals (go_ret2; first | exact ⟨ret_val (by rw [valueRes_range (by omega) (by omega)]; rfl), rfl⟩ | exact ⟨ret_val (by rw [valueRes_over (by omega) (by omega) HN.out (by omega)]; rfl), rfl⟩ | exact ⟨ret_val (by rw [valueRes_fits (by omega) (by omega) HN.out (by omega)]; rfl), rfl⟩)
    · rcases Decidable.em (k = 4) with rfl | h4
      · have HN := Lib.hid (show t + d - a = if farOf 4 then t + d - a else t + d from rfl)
        go_enter Try.func22, Try.ntmps22
        (go_wp2_with (go_at_call 21; refine (fillRange_any _ _).mono ?_; rintro e w' ⟨rfl, rfl⟩))
        go_rounds 3
        all_goals (go_ret2; first | exact ⟨ret_val (by rw [valueRes_range (by omega) (by omega)]; rfl), rfl⟩ | exact ⟨ret_val (by rw [valueRes_over (by omega) (by omega) HN.out (by omega)]; rfl), rfl⟩ | exact ⟨ret_val (by rw [valueRes_fits (by omega) (by omega) HN.out (by omega)]; rfl), rfl⟩)
      · have HN := Lib.hid (show t + d = if farOf k then t + d - a else t + d by simp [farOf, h3, h4])
        have b3 : (k == 3) = false := by simpa using h3
        have b4 : (k == 4) = false := by simpa using h4
        clear h3 h4
        go_enter Try.func22, Try.ntmps22
        (go_wp2_with (go_at_call 21; refine (fillRange_any _ _).mono ?_; rintro e w' ⟨rfl, rfl⟩))
        go_rounds 3
        all_goals (go_ret2; first | exact ⟨ret_val (by rw [valueRes_range (by omega) (by omega)]; rfl), rfl⟩ | exact ⟨ret_val (by rw [valueRes_over (by omega) (by omega) HN.out (by omega)]; rfl), rfl⟩ | exact ⟨ret_val (by rw [valueRes_fits (by omega) (by omega) HN.out (by omega)]; rfl), rfl⟩)
end Go.Proofs.Ytjpkjcmphjnbhaa
