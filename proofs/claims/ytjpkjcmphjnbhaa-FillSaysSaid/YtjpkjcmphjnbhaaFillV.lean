/- ropewalkref.ValueOf: what it computes. -/
import Derived.Test.YtjpkjcmphjnbhaaFillRef
namespace Go.Proofs.Ytjpkjcmphjnbhaa
open Go.RowKit

set_option maxHeartbeats 1000000 in
theorem valueOf_any (k a t d : Int) (w : World) (ha0 : -9223372036854775808 ≤ a) (ha1 : a ≤ 9223372036854775807) :
    Calls Try.prog 26 #[.int .i64 k, .int .i64 a, .int .i64 t, .int .i64 d] w fun e w' => e = .returned (.tuple #[.int .i64 (valueRes k a t d).1, .int .i64 (valueRes k a t d).2]) ∧ Below w.heap.size w w' := by
  obtain ⟨lb0, lb1⟩ := least_bd k
  obtain ⟨mb0, mb1⟩ := most_bd k
  rcases Int.lt_or_le (mostOf k) (leastOf k) with h0 | h0
  · have HF := Lib.hid (valueRes_kind (a := a) (t := t) (d := d) h0)
    go_enter Try.func26, Try.ntmps26
    go_wp2_with fail
    refine (bounds_any k w).mono ?_
    rintro e w1 ⟨rfl, hb1⟩
    go_wp2
    go_ret2
    exact ⟨ret_val (by rw [HF.out]; rfl), hb1⟩
  · have d0 : decide (mostOf k < leastOf k) = false := by simpa using h0
    rcases least_le k h0 with rfl | rfl | rfl | rfl
    · have HN := Lib.hid (show t + d = if farOf 1 then t + d - a else t + d from rfl)
      go_enter Try.func26, Try.ntmps26
      go_wp2_with fail
      refine (bounds_any _ w).mono ?_
      rintro e w1 ⟨rfl, hb1⟩
      go_wp2
      all_goals
        go_ret2
        first
          | exact ⟨ret_val (by rw [valueRes_range (by omega) (by omega)]; rfl), hb1⟩
          | exact ⟨ret_val (by rw [valueRes_over (by omega) (by omega) HN.out (by omega)]; rfl), hb1⟩
          | exact ⟨ret_val (by rw [valueRes_fits (by omega) (by omega) HN.out (by omega)]; rfl), hb1⟩
    · have HN := Lib.hid (show t + d = if farOf 2 then t + d - a else t + d from rfl)
      go_enter Try.func26, Try.ntmps26
      go_wp2_with fail
      refine (bounds_any _ w).mono ?_
      rintro e w1 ⟨rfl, hb1⟩
      go_wp2
      all_goals
        go_ret2
        first
          | exact ⟨ret_val (by rw [valueRes_range (by omega) (by omega)]; rfl), hb1⟩
          | exact ⟨ret_val (by rw [valueRes_over (by omega) (by omega) HN.out (by omega)]; rfl), hb1⟩
          | exact ⟨ret_val (by rw [valueRes_fits (by omega) (by omega) HN.out (by omega)]; rfl), hb1⟩
    · have HN := Lib.hid (show t + d - a = if farOf 3 then t + d - a else t + d from rfl)
      go_enter Try.func26, Try.ntmps26
      go_wp2_with fail
      refine (bounds_any _ w).mono ?_
      rintro e w1 ⟨rfl, hb1⟩
      go_wp2
      all_goals
        go_ret2
        first
          | exact ⟨ret_val (by rw [valueRes_range (by omega) (by omega)]; rfl), hb1⟩
          | exact ⟨ret_val (by rw [valueRes_over (by omega) (by omega) HN.out (by omega)]; rfl), hb1⟩
          | exact ⟨ret_val (by rw [valueRes_fits (by omega) (by omega) HN.out (by omega)]; rfl), hb1⟩
    · have HN := Lib.hid (show t + d - a = if farOf 4 then t + d - a else t + d from rfl)
      go_enter Try.func26, Try.ntmps26
      go_wp2_with fail
      refine (bounds_any _ w).mono ?_
      rintro e w1 ⟨rfl, hb1⟩
      go_wp2
      all_goals
        go_ret2
        first
          | exact ⟨ret_val (by rw [valueRes_range (by omega) (by omega)]; rfl), hb1⟩
          | exact ⟨ret_val (by rw [valueRes_over (by omega) (by omega) HN.out (by omega)]; rfl), hb1⟩
          | exact ⟨ret_val (by rw [valueRes_fits (by omega) (by omega) HN.out (by omega)]; rfl), hb1⟩
end Go.Proofs.Ytjpkjcmphjnbhaa
