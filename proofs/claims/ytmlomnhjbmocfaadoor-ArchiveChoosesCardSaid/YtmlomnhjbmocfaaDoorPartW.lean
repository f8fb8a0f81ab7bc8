/- obj.Name, align, Long: what they compute. -/
import Derived.Test.YtmlomnhjbmocfaaDoorBA
import Derived.Test.YtmlomnhjbmocfaaDoorB1
set_option linter.all false
namespace Go.Proofs.YtmlomnhjbmocfaaDoor
open Go.RowKit

theorem nameB_no {s : ByteArray} (h : s.size = 0 ∨ 8 < s.size) : nameB s = false := by
  unfold nameB
  rcases h with h | h
  · simp [h]
  · rw [show decide (s.size ≤ 8) = false from decide_eq_false (by omega)]; simp
theorem nameB_bad {s : ByteArray} {k : Nat} (hk : k < s.size) (h : nameC s[k] = false) : nameB s = false := by
  unfold nameB
  have : s.data.toList.all nameC = false := by
    rw [List.all_eq_false]
    exact ⟨s[k], by rw [Array.mem_toList_iff]; exact Array.getElem_mem _, by simp [h]⟩
  rw [this]; simp
theorem nameB_ok {s : ByteArray} (h0 : 0 < s.size) (h8 : s.size ≤ 8) (h : s.data.toList.all nameC = true) : nameB s = true := by
  unfold nameB; simp [h0, h8]; simpa using h
theorem name_next {s : ByteArray} {k : Nat} (hk : k < s.size) (h : (s.data.toList.take k).all nameC = true) (hc : nameC s[k] = true) : (s.data.toList.take (k + 1)).all nameC = true := by
  have e : s.data.toList.take (k + 1) = s.data.toList.take k ++ [s[k]] := by
    rw [List.take_succ_eq_append_getElem (by simpa using hk)]; rfl
  rw [e, List.all_append, h]; simp [hc]

set_option maxHeartbeats 1000000 in
theorem name_any (s : ByteArray) (w : World) :
    Calls Tryd.prog 45 #[.string s] w fun e w' => e = .returned (.bool (nameB s)) ∧ w = w' := by
  rcases Nat.eq_zero_or_pos s.size with h0 | h0
  · have HN := Lib.hid (nameB_no (.inl h0))
    have h1 := toList_nil h0
    clear h0
    go_enter Tryd.func45, Tryd.ntmps45
    go_wp2
    go_ret
    exact ⟨ret_val (by rw [HN.out]; rfl), rfl⟩
  · have h1 := toList_one h0
    have h1' := toList_some h0
    by_cases h8 : 8 < s.size
    · have HN := Lib.hid (nameB_no (.inr h8))
      go_enter Tryd.func45, Tryd.ntmps45
      go_wp2
      go_ret
      exact ⟨ret_val (by rw [HN.out]; rfl), rfl⟩
    · have h8' : s.size ≤ 8 := by omega
      have HN := Lib.hid (@nameB_ok s h0 h8')
      have HB : Hid (∀ k (hk : k < s.size), nameC s[k] = false → nameB s = false) := fun k hk h => nameB_bad hk h
      clear h8
      go_enter Tryd.func45, Tryd.ntmps45
      go_wp2
      go_loop [14] (fun i => ∃ k : Nat, k ≤ s.size ∧ i = .int .i64 k ∧ Hid ((s.data.toList.take k).all nameC = true)) (fun i => s.size - (intOf i).toNat)
      case atStart => exact ⟨0, Nat.zero_le _, rfl, Lib.hid (by simp)⟩
      case round =>
        obtain ⟨k, hk, rfl, hall⟩ := hrel
        by_cases hlt : k < s.size
        · have HY := Lib.hid (fun h => name_next hlt hall.out h)
          have HX := Lib.hid (HB.out k hlt)
          go_wp2
          all_goals first
            | (go_ret; exact ⟨ret_val (by rw [HX.out (nameC_no (by (try simp only [bne_iff_ne, ne_eq, bne_eq_false_iff_eq] at *); omega))]; rfl), rfl⟩)
            | (go_round
               case rel => exact ⟨k + 1, by omega, by go_num, Lib.hid (HY.out (nameC_yes (by (try simp only [bne_iff_ne, ne_eq, bne_eq_false_iff_eq] at *); omega)))⟩
               case measure => simp [intOf]; omega)
        · obtain rfl : k = s.size := by omega
          go_wp2
          go_ret
          exact ⟨ret_val (by rw [HN.out (by have := hall.out; rwa [List.take_of_length_le (by simp)] at this)]; rfl), rfl⟩

set_option maxHeartbeats 1000000 in
theorem align_any (n : Int) (w : World) : Calls Tryd.prog 74 #[.int .i64 n] w fun e w' => e = .returned (.bool (alignB n)) ∧ w = w' := by
  go_enter Tryd.func74, Tryd.ntmps74
  go_wp2
  all_goals (go_ret; exact ⟨ret_val (by simp [alignB, *]), rfl⟩)

set_option maxHeartbeats 1000000 in
theorem long_any (x : FgM) (w : World) : Calls Tryd.prog 30 #[.agg #[.int .i64 x.f.sect, .int .i64 x.f.align, .string x.f.group, x.byV, .int .i64 x.f.size, x.reV]] w fun e w' => e = .returned (.int .i64 x.f.long) ∧ Below w.heap.size w w' := by
  unfold FgM.byV FgM.reV
  by_cases h : x.f.sect = 5
  · have HL : Hid (x.f.long = x.f.size) := by show x.f.long = _; unfold Frg.long; rw [if_pos h]
    have h' : (x.f.sect == 5) = true := by simpa using h
    clear h
    go_enter Tryd.func30, Tryd.ntmps30
    go_wp2
    go_ret
    exact ⟨ret_val (by rw [HL.out]; rfl), by (repeat' (first | exact Below.refl _ _ | assumption | refine Below.setCell ?_ (by first | omega | exact Below.size (by assumption) | (simp; done) | (simp; omega)) _ | refine Below.alloc ?_ (by first | omega | exact Below.size (by assumption) | (simp; done) | (simp; omega)) _ | refine Below.drew ?_ | refine below_drewN ?_ _))⟩
  · have HL : Hid (x.f.long = x.f.bs.length) := by show x.f.long = _; unfold Frg.long; rw [if_neg h]
    have h' : (x.f.sect == 5) = false := by simpa using h
    clear h
    go_enter Tryd.func30, Tryd.ntmps30
    go_wp2
    go_ret
    exact ⟨ret_val (by rw [HL.out]; rfl), by (repeat' (first | exact Below.refl _ _ | assumption | refine Below.setCell ?_ (by first | omega | exact Below.size (by assumption) | (simp; done) | (simp; omega)) _ | refine Below.alloc ?_ (by first | omega | exact Below.size (by assumption) | (simp; done) | (simp; omega)) _ | refine Below.drew ?_ | refine below_drewN ?_ _))⟩
end Go.Proofs.YtmlomnhjbmocfaaDoor
