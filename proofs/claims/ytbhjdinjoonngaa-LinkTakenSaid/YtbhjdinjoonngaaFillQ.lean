/- fill.Put: what it computes. -/
import Derived.Test.YtbhjdinjoonngaaFillP
set_option linter.all false
namespace Go.Proofs.Ytbhjdinjoonngaa
open Go.RowKit

def PutIs (w : World) (r : List UInt8 × Int) (e : Ending) (w' : World) : Prop := ∃ v, e = .returned (.tuple #[v, .int .i64 r.2]) ∧ BytesAt w' v r.1 ∧ Below w.heap.size w w'
/-- The same, the bytes a row of the call's own. -/
def PutOwn (w : World) (r : List UInt8 × Int) (e : Ending) (w' : World) : Prop := ∃ v, e = .returned (.tuple #[v, .int .i64 r.2]) ∧ w'.ownsRow w.heap.size 5 1 v r.1.length (bytesV r.1) ∧ Below w.heap.size w w'

set_option maxHeartbeats 1000000 in
theorem put_1 (k a n : Int) (A : Option Addr) (c : Nat) (b : List UInt8) (w : World) (h : Reads w w.heap.size 1 A b.length (bytesV b)) (h0 : leastOf k ≤ mostOf k) (hl : b.length ≤ 65536) (hw : wideOf k = 1) (ha0 : 0 ≤ a) (ha1 : a ≤ b.length - 1) (hn0 : leastOf k ≤ n) (hn1 : n ≤ mostOf k) :
    Calls Try.prog 139 #[.slice A b.length c, .int .i64 a, .int .i64 k, .int .i64 n] w fun e w' => ∃ v, e = .returned (.tuple #[v, .int .i64 0]) ∧ w'.ownsRow w.heap.size 5 1 v (putB b a.toNat k n).length (bytesV (putB b a.toNat k n)) ∧ Below w.heap.size w w' := by
  have hWD := fun W => wide_any k W
  rw [hw] at hWD
  obtain ⟨lb0, lb1⟩ := least_bd k
  obtain ⟨mb0, mb1⟩ := most_bd k
  have d1 : decide (a < 0) = false := by simp; omega
  have d2 : decide (n < leastOf k) = false := by simp; omega
  have d3 : decide (mostOf k < n) = false := by simp; omega
  go_enter Try.func139, Try.ntmps139
  go_wp2_with (first | (go_at_call 110; refine (fillRange_any _ _).mono ?_; rintro e w' ⟨rfl, rfl⟩) | (go_at_call 60; refine (hWD _).mono ?_; rintro e w' ⟨rfl, rfl⟩))
  refine (cloneBytes_any A b.length c (bytesV b) _ h (bytes_one b) (by omega) (by omega)).mono ?_
  rintro e w1 ⟨v, rfl, hown, hb1⟩
  obtain ⟨g, c1, rfl, hg0, hg1⟩ := hown.form (by omega)
  have hcell : w1.cell? ⟨g, a.toNat, none⟩ = some (.int .u8 ((b[a.toNat]'(by omega)).toNat : Int)) := (hown.cellAt a.toNat (by omega)).trans (bytesV_get (by omega))
  have hfr := hown.frozenAt a.toNat
  go_wp2_with (first | (go_at_call 110; refine (fillRange_any _ _).mono ?_; rintro e w' ⟨rfl, rfl⟩) | (go_at_call 60; refine (hWD _).mono ?_; rintro e w' ⟨rfl, rfl⟩))
  go_rounds 2
  go_ret2
  have hst := hown.stored a.toNat (.int .u8 (n % 256))
  refine ⟨_, rfl, ?_, hb1.setCell hg0 _⟩
  rw [putB_len, putB_one hw]
  exact hst.1

set_option maxHeartbeats 1000000 in
theorem put_2 (k a n : Int) (A : Option Addr) (c : Nat) (b : List UInt8) (w : World) (h : Reads w w.heap.size 1 A b.length (bytesV b)) (h0 : leastOf k ≤ mostOf k) (hl : b.length ≤ 65536) (hw : wideOf k = 2) (ha0 : 0 ≤ a) (ha1 : a ≤ b.length - 2) (hn0 : leastOf k ≤ n) (hn1 : n ≤ mostOf k) :
    Calls Try.prog 139 #[.slice A b.length c, .int .i64 a, .int .i64 k, .int .i64 n] w fun e w' => ∃ v, e = .returned (.tuple #[v, .int .i64 0]) ∧ w'.ownsRow w.heap.size 5 1 v (putB b a.toNat k n).length (bytesV (putB b a.toNat k n)) ∧ Below w.heap.size w w' := by
  have hWD := fun W => wide_any k W
  rw [hw] at hWD
  obtain ⟨lb0, lb1⟩ := least_bd k
  obtain ⟨mb0, mb1⟩ := most_bd k
  have d1 : decide (a < 0) = false := by simp; omega
  have d2 : decide (n < leastOf k) = false := by simp; omega
  have d3 : decide (mostOf k < n) = false := by simp; omega
  go_enter Try.func139, Try.ntmps139
  go_wp2_with (first | (go_at_call 110; refine (fillRange_any _ _).mono ?_; rintro e w' ⟨rfl, rfl⟩) | (go_at_call 60; refine (hWD _).mono ?_; rintro e w' ⟨rfl, rfl⟩))
  refine (cloneBytes_any A b.length c (bytesV b) _ h (bytes_one b) (by omega) (by omega)).mono ?_
  rintro e w1 ⟨v, rfl, hown, hb1⟩
  obtain ⟨g, c1, rfl, hg0, hg1⟩ := hown.form (by omega)
  have hcell : w1.cell? ⟨g, a.toNat, none⟩ = some (.int .u8 ((b[a.toNat]'(by omega)).toNat : Int)) := (hown.cellAt a.toNat (by omega)).trans (bytesV_get (by omega))
  have hfr := hown.frozenAt a.toNat
  have ea : (a + 1).toNat = a.toNat + 1 := by omega
  have hst1 := hown.stored a.toNat (.int .u8 (n % 256))
  have hcell2 : (w1.setCell ⟨g, a.toNat, none⟩ (.int .u8 (n % 256))).cell? ⟨g, (a + 1).toNat, none⟩ = some (.int .u8 ((b[a.toNat + 1]'(by omega)).toNat : Int)) := by
    rw [ea, hst1.1.cellAt (a.toNat + 1) (by omega), List.getElem?_set_ne (by omega)]; exact bytesV_get (by omega)
  have hfr2 : (w1.setCell ⟨g, a.toNat, none⟩ (.int .u8 (n % 256))).frozen? ⟨g, (a + 1).toNat, none⟩ = false := hst1.1.frozenAt _
  have Hst := Lib.hid hst1
  clear hst1 ea
  go_wp2_with (first | (go_at_call 110; refine (fillRange_any _ _).mono ?_; rintro e w' ⟨rfl, rfl⟩) | (go_at_call 60; refine (hWD _).mono ?_; rintro e w' ⟨rfl, rfl⟩))
  go_rounds 3
  go_ret2
  have h2 := Hst.out.1.stored (a.toNat + 1) (.int .u8 (n / 256 % 256))
  refine ⟨_, rfl, ?_, (hb1.setCell hg0 _).setCell hg0 _⟩
  rw [putB_len, putB_two hw, show (a + 1).toNat = a.toNat + 1 from by omega]
  exact h2.1

set_option maxHeartbeats 1000000 in
theorem put_own (k a n : Int) (A : Option Addr) (c : Nat) (b : List UInt8) (w : World) (h : Reads w w.heap.size 1 A b.length (bytesV b)) (hm : b.length ≤ 9223372036854775807) :
    Calls Try.prog 139 #[.slice A b.length c, .int .i64 a, .int .i64 k, .int .i64 n] w (PutOwn w (putRes b a k n)) := by
  obtain ⟨lb0, lb1⟩ := least_bd k
  obtain ⟨mb0, mb1⟩ := most_bd k
  obtain ⟨wb0, wb1⟩ := wide_bd k
  rcases Int.lt_or_le (mostOf k) (leastOf k) with h0 | h0
  · have HF := Lib.hid (putRes_kind (b := b) (a := a) (n := n) h0)
    go_enter Try.func139, Try.ntmps139
    go_wp2_with (first | (go_at_call 110; refine (fillRange_any _ _).mono ?_; rintro e w' ⟨rfl, rfl⟩) | (go_at_call 60; refine (wide_any _ _).mono ?_; rintro e w' ⟨rfl, rfl⟩))
    go_ret2
    rw [HF.out]
    exact ⟨_, rfl, World.ownsRow_nil _ _ _ _, Below.refl _ _⟩
  rcases Int.lt_or_le 65536 (b.length : Int) with h1 | h1
  · have HF := Lib.hid (putRes_many (a := a) (n := n) h0 h1)
    go_enter Try.func139, Try.ntmps139
    go_wp2_with (first | (go_at_call 110; refine (fillRange_any _ _).mono ?_; rintro e w' ⟨rfl, rfl⟩) | (go_at_call 60; refine (wide_any _ _).mono ?_; rintro e w' ⟨rfl, rfl⟩))
    go_ret2
    rw [HF.out]
    exact ⟨_, rfl, World.ownsRow_nil _ _ _ _, Below.refl _ _⟩
  rcases Int.lt_or_le a 0 with h2 | h2
  · have HF := Lib.hid (putRes_who (n := n) h0 h1 (.inl h2))
    have d1 : decide (a < 0) = true := by simpa using h2
    go_enter Try.func139, Try.ntmps139
    go_wp2_with (first | (go_at_call 110; refine (fillRange_any _ _).mono ?_; rintro e w' ⟨rfl, rfl⟩) | (go_at_call 60; refine (wide_any _ _).mono ?_; rintro e w' ⟨rfl, rfl⟩))
    go_ret2
    rw [HF.out]
    exact ⟨_, rfl, World.ownsRow_nil _ _ _ _, Below.refl _ _⟩
  have d1 : decide (a < 0) = false := by simpa using h2
  rcases Int.lt_or_le ((b.length : Int) - wideOf k) a with h3 | h3
  · have HF := Lib.hid (putRes_who (n := n) h0 h1 (.inr h3))
    have d3 : decide ((b.length : Int) - wideOf k < a) = true := by simpa using h3
    go_enter Try.func139, Try.ntmps139
    go_wp2_with (first | (go_at_call 110; refine (fillRange_any _ _).mono ?_; rintro e w' ⟨rfl, rfl⟩) | (go_at_call 60; refine (wide_any _ _).mono ?_; rintro e w' ⟨rfl, rfl⟩))
    go_ret2
    rw [HF.out]
    exact ⟨_, rfl, World.ownsRow_nil _ _ _ _, Below.refl _ _⟩
  have d3 : decide ((b.length : Int) - wideOf k < a) = false := by simpa using h3
  rcases Int.lt_or_le n (leastOf k) with h4 | h4
  · have HF := Lib.hid (putRes_over h0 h1 h2 h3 (.inl h4))
    have d4 : decide (n < leastOf k) = true := by simpa using h4
    go_enter Try.func139, Try.ntmps139
    go_wp2_with (first | (go_at_call 110; refine (fillRange_any _ _).mono ?_; rintro e w' ⟨rfl, rfl⟩) | (go_at_call 60; refine (wide_any _ _).mono ?_; rintro e w' ⟨rfl, rfl⟩))
    go_ret2
    rw [HF.out]
    exact ⟨_, rfl, World.ownsRow_nil _ _ _ _, Below.refl _ _⟩
  have d4 : decide (n < leastOf k) = false := by simpa using h4
  rcases Int.lt_or_le (mostOf k) n with h5 | h5
  · have HF := Lib.hid (putRes_over h0 h1 h2 h3 (.inr h5))
    have d5 : decide (mostOf k < n) = true := by simpa using h5
    go_enter Try.func139, Try.ntmps139
    go_wp2_with (first | (go_at_call 110; refine (fillRange_any _ _).mono ?_; rintro e w' ⟨rfl, rfl⟩) | (go_at_call 60; refine (wide_any _ _).mono ?_; rintro e w' ⟨rfl, rfl⟩))
    go_ret2
    rw [HF.out]
    exact ⟨_, rfl, World.ownsRow_nil _ _ _ _, Below.refl _ _⟩
  rw [putRes_fits h0 h1 h2 h3 h4 h5]
  rcases wide_or h0 with hw | hw
  · exact put_1 k a n A c b w h h0 (by omega) hw h2 (by omega) h4 h5
  · exact put_2 k a n A c b w h h0 (by omega) hw h2 (by omega) h4 h5

theorem put_any (k a n : Int) (A : Option Addr) (c : Nat) (b : List UInt8) (w : World) (h : Reads w w.heap.size 1 A b.length (bytesV b)) (hm : b.length ≤ 9223372036854775807) :
    Calls Try.prog 139 #[.slice A b.length c, .int .i64 a, .int .i64 k, .int .i64 n] w (PutIs w (putRes b a k n)) := by
  refine (put_own k a n A c b w h hm).mono ?_
  rintro e w' ⟨v, he, ho, hb⟩
  exact ⟨v, he, BytesAt.of_own ho, hb⟩

set_option maxHeartbeats 1000000 in
theorem get_any (k a : Int) (A : Option Addr) (c : Nat) (b : List UInt8) (w : World) (h : Reads w w.heap.size 1 A b.length (bytesV b)) (hm : b.length ≤ 9223372036854775807) :
    Calls Try.prog 59 #[.slice A b.length c, .int .i64 a, .int .i64 k] w fun e w' => e = .returned (.tuple #[.int .i64 (getRes b a k).1, .int .i64 (getRes b a k).2]) ∧ w = w' := by
  obtain ⟨lb0, lb1⟩ := least_bd k
  obtain ⟨mb0, mb1⟩ := most_bd k
  obtain ⟨wb0, wb1⟩ := wide_bd k
  rcases Int.lt_or_le (mostOf k) (leastOf k) with h0 | h0
  · have HF := Lib.hid (getRes_kind (b := b) (a := a) h0)
    go_enter Try.func59, Try.ntmps59
    go_wp2_with (first | (go_at_call 110; refine (fillRange_any _ _).mono ?_; rintro e w' ⟨rfl, rfl⟩) | (go_at_call 60; refine (wide_any _ _).mono ?_; rintro e w' ⟨rfl, rfl⟩))
    go_ret2
    rw [HF.out]
    exact ⟨rfl, rfl⟩
  rcases Int.lt_or_le 65536 (b.length : Int) with h1 | h1
  · have HF := Lib.hid (getRes_many (a := a) h0 h1)
    go_enter Try.func59, Try.ntmps59
    go_wp2_with (first | (go_at_call 110; refine (fillRange_any _ _).mono ?_; rintro e w' ⟨rfl, rfl⟩) | (go_at_call 60; refine (wide_any _ _).mono ?_; rintro e w' ⟨rfl, rfl⟩))
    go_ret2
    rw [HF.out]
    exact ⟨rfl, rfl⟩
  rcases Int.lt_or_le a 0 with h2 | h2
  · have HF := Lib.hid (getRes_who h0 h1 (.inl h2))
    have d1 : decide (a < 0) = true := by simpa using h2
    go_enter Try.func59, Try.ntmps59
    go_wp2_with (first | (go_at_call 110; refine (fillRange_any _ _).mono ?_; rintro e w' ⟨rfl, rfl⟩) | (go_at_call 60; refine (wide_any _ _).mono ?_; rintro e w' ⟨rfl, rfl⟩))
    go_ret2
    rw [HF.out]
    exact ⟨rfl, rfl⟩
  have d1 : decide (a < 0) = false := by simpa using h2
  rcases Int.lt_or_le ((b.length : Int) - wideOf k) a with h3 | h3
  · have HF := Lib.hid (getRes_who h0 h1 (.inr h3))
    have d3 : decide ((b.length : Int) - wideOf k < a) = true := by simpa using h3
    go_enter Try.func59, Try.ntmps59
    go_wp2_with (first | (go_at_call 110; refine (fillRange_any _ _).mono ?_; rintro e w' ⟨rfl, rfl⟩) | (go_at_call 60; refine (wide_any _ _).mono ?_; rintro e w' ⟨rfl, rfl⟩))
    go_ret2
    rw [HF.out]
    exact ⟨rfl, rfl⟩
  rw [getRes_fits h0 h1 h2 h3]
  rcases wide_or h0 with hw | hw
  · exact get_1 k a A c b w h h0 (by omega) hw h2 (by omega)
  · exact get_2 k a A c b w h h0 (by omega) hw h2 (by omega)
end Go.Proofs.Ytbhjdinjoonngaa
