/- ropewalklaw.FillSays returns true where the kind is none, the bytes are too many, or the place isn't there. -/
import Derived.Test.YtjpkjcmphjnbhaaFillX
import Derived.Test.YtjpkjcmphjnbhaaFillL
import Derived.Test.YtjpkjcmphjnbhaaFillV
namespace Go.Proofs.Ytjpkjcmphjnbhaa
open Go.RowKit

set_option maxRecDepth 100000 in
set_option maxHeartbeats 2000000 in
theorem fillSays_kind (k from_ to_ add a n : Int) (A : Option Addr) (c : Nat) (b : List UInt8) (w : World) (h : Reads w w.heap.size 1 A b.length (bytesV b)) (hm : b.length ≤ 9223372036854775807) (hf0 : -9223372036854775808 ≤ from_) (hf1 : from_ ≤ 9223372036854775807) (hp0 : -9223372036854775808 ≤ a) (hp1 : a ≤ 9223372036854775807) (h0 : mostOf k < leastOf k) : Calls Try.prog 6 #[.int .i64 k, .int .i64 from_, .int .i64 to_, .int .i64 add, .slice A b.length c, .int .i64 a, .int .i64 n] w fun e w' => e = .returned (.bool true) ∧ Below w.heap.size w w' := by
  have HP := Lib.hid (putRes_kind (b := b) (a := a) (n := n) h0)
  have HG := Lib.hid (getRes_kind (b := b) (a := a) h0)
  obtain ⟨x, y, hv⟩ : ∃ x y, valueRes k from_ to_ add = (x, y) := ⟨_, _, rfl⟩
  have HV := Lib.hid hv
  clear hv
  obtain ⟨lb0, lb1⟩ := least_bd k
  obtain ⟨mb0, mb1⟩ := most_bd k
  go_enter Try.func6, Try.ntmps6
  (go_wp2_with fail; refine (fillRange_any k w).mono ?_; rintro e w' ⟨rfl, rfl⟩; go_wp2_with fail; refine (value_any k from_ to_ add w hf0 hf1).mono ?_; rintro e w' ⟨rfl, rfl⟩; rw [HV.out]; go_wp2_with fail; refine (put_any k a n A c b w h hm).mono ?_; rintro e w1 ⟨v, rfl, ⟨A1, c1, rfl, hv⟩, hb1⟩; rw [HP.out] at hv ⊢; have hx1 := (h.below hb1).more hb1.size; go_wp2_with fail; refine (get_any k a A c b w1 hx1 hm).mono ?_; rintro e w' ⟨rfl, rfl⟩; rw [HG.out]; go_wp2_with fail; refine (bounds_any k w1).mono ?_; rintro e w2 ⟨rfl, hb2⟩; have hx2 := (hx1.below hb2).more hb2.size; have hv2 := (hv.below hb2).more hb2.size; have hb2 := hb1.trans (hb2.mono hb1.size); clear hx1 hv hb1; go_wp2_with fail; refine (valueOf_any k from_ to_ add w2 hf0 hf1).mono ?_; rintro e w3 ⟨rfl, hb3⟩; rw [HV.out]; have hx3 := (hx2.below hb3).more hb3.size; have hv3 := (hv2.below hb3).more hb3.size; have hb3 := hb2.trans (hb3.mono hb2.size); clear hx2 hv2 hb2; go_wp2_with fail; refine (putFact_any w3).mono ?_; rintro e w4 ⟨rfl, hb4⟩; have hx4 := (hx3.below hb4).more hb4.size; have hv4 := (hv3.below hb4).more hb4.size; have hb4 := hb3.trans (hb4.mono hb3.size); clear hx3 hv3 hb3)
  go_wp2
  go_ret
  exact ⟨rfl, hb4⟩

set_option maxRecDepth 100000 in
set_option maxHeartbeats 2000000 in
theorem fillSays_many (k from_ to_ add a n : Int) (A : Option Addr) (c : Nat) (b : List UInt8) (w : World) (h : Reads w w.heap.size 1 A b.length (bytesV b)) (hm : b.length ≤ 9223372036854775807) (hf0 : -9223372036854775808 ≤ from_) (hf1 : from_ ≤ 9223372036854775807) (hp0 : -9223372036854775808 ≤ a) (hp1 : a ≤ 9223372036854775807) (h0 : leastOf k ≤ mostOf k) (h1 : 65536 < (b.length : Int)) : Calls Try.prog 6 #[.int .i64 k, .int .i64 from_, .int .i64 to_, .int .i64 add, .slice A b.length c, .int .i64 a, .int .i64 n] w fun e w' => e = .returned (.bool true) ∧ Below w.heap.size w w' := by
  have HP := Lib.hid (putRes_many (a := a) (n := n) h0 h1)
  have HG := Lib.hid (getRes_many (a := a) h0 h1)
  obtain ⟨x, y, hv⟩ : ∃ x y, valueRes k from_ to_ add = (x, y) := ⟨_, _, rfl⟩
  have HV := Lib.hid hv
  have d0 : decide (mostOf k < leastOf k) = false := by simpa using h0
  clear hv
  obtain ⟨lb0, lb1⟩ := least_bd k
  obtain ⟨mb0, mb1⟩ := most_bd k
  go_enter Try.func6, Try.ntmps6
  (go_wp2_with fail; refine (fillRange_any k w).mono ?_; rintro e w' ⟨rfl, rfl⟩; go_wp2_with fail; refine (value_any k from_ to_ add w hf0 hf1).mono ?_; rintro e w' ⟨rfl, rfl⟩; rw [HV.out]; go_wp2_with fail; refine (put_any k a n A c b w h hm).mono ?_; rintro e w1 ⟨v, rfl, ⟨A1, c1, rfl, hv⟩, hb1⟩; rw [HP.out] at hv ⊢; have hx1 := (h.below hb1).more hb1.size; go_wp2_with fail; refine (get_any k a A c b w1 hx1 hm).mono ?_; rintro e w' ⟨rfl, rfl⟩; rw [HG.out]; go_wp2_with fail; refine (bounds_any k w1).mono ?_; rintro e w2 ⟨rfl, hb2⟩; have hx2 := (hx1.below hb2).more hb2.size; have hv2 := (hv.below hb2).more hb2.size; have hb2 := hb1.trans (hb2.mono hb1.size); clear hx1 hv hb1; go_wp2_with fail; refine (valueOf_any k from_ to_ add w2 hf0 hf1).mono ?_; rintro e w3 ⟨rfl, hb3⟩; rw [HV.out]; have hx3 := (hx2.below hb3).more hb3.size; have hv3 := (hv2.below hb3).more hb3.size; have hb3 := hb2.trans (hb3.mono hb2.size); clear hx2 hv2 hb2; go_wp2_with fail; refine (putFact_any w3).mono ?_; rintro e w4 ⟨rfl, hb4⟩; have hx4 := (hx3.below hb4).more hb4.size; have hv4 := (hv3.below hb4).more hb4.size; have hb4 := hb3.trans (hb4.mono hb3.size); clear hx3 hv3 hb3)
  go_wp2
  go_ret
  exact ⟨rfl, hb4⟩

set_option maxRecDepth 100000 in
set_option maxHeartbeats 2000000 in
theorem fillSays_who (k from_ to_ add a n : Int) (A : Option Addr) (c : Nat) (b : List UInt8) (w : World) (h : Reads w w.heap.size 1 A b.length (bytesV b)) (hm : b.length ≤ 9223372036854775807) (hf0 : -9223372036854775808 ≤ from_) (hf1 : from_ ≤ 9223372036854775807) (hp0 : -9223372036854775808 ≤ a) (hp1 : a ≤ 9223372036854775807) (h0 : leastOf k ≤ mostOf k) (h1 : (b.length : Int) ≤ 65536) (h2 : a < 0 ∨ (b.length : Int) - wideOf k < a) : Calls Try.prog 6 #[.int .i64 k, .int .i64 from_, .int .i64 to_, .int .i64 add, .slice A b.length c, .int .i64 a, .int .i64 n] w fun e w' => e = .returned (.bool true) ∧ Below w.heap.size w w' := by
  have HP := Lib.hid (putRes_who (n := n) h0 h1 h2)
  have HG := Lib.hid (getRes_who h0 h1 h2)
  obtain ⟨x, y, hv⟩ : ∃ x y, valueRes k from_ to_ add = (x, y) := ⟨_, _, rfl⟩
  have HV := Lib.hid hv
  have H2 := Lib.hid h2
  have d0 : decide (mostOf k < leastOf k) = false := by simpa using h0
  clear hv h2
  obtain ⟨lb0, lb1⟩ := least_bd k
  obtain ⟨mb0, mb1⟩ := most_bd k
  obtain ⟨wb0, wb1⟩ := wide_bd k
  rcases Int.lt_or_le a 0 with h3 | h3
  · have d1 : decide (a < 0) = true := by simpa using h3
    go_enter Try.func6, Try.ntmps6
    (go_wp2_with fail; refine (fillRange_any k w).mono ?_; rintro e w' ⟨rfl, rfl⟩; go_wp2_with fail; refine (value_any k from_ to_ add w hf0 hf1).mono ?_; rintro e w' ⟨rfl, rfl⟩; rw [HV.out]; go_wp2_with fail; refine (put_any k a n A c b w h hm).mono ?_; rintro e w1 ⟨v, rfl, ⟨A1, c1, rfl, hv⟩, hb1⟩; rw [HP.out] at hv ⊢; have hx1 := (h.below hb1).more hb1.size; go_wp2_with fail; refine (get_any k a A c b w1 hx1 hm).mono ?_; rintro e w' ⟨rfl, rfl⟩; rw [HG.out]; go_wp2_with fail; refine (bounds_any k w1).mono ?_; rintro e w2 ⟨rfl, hb2⟩; have hx2 := (hx1.below hb2).more hb2.size; have hv2 := (hv.below hb2).more hb2.size; have hb2 := hb1.trans (hb2.mono hb1.size); clear hx1 hv hb1; go_wp2_with fail; refine (valueOf_any k from_ to_ add w2 hf0 hf1).mono ?_; rintro e w3 ⟨rfl, hb3⟩; rw [HV.out]; have hx3 := (hx2.below hb3).more hb3.size; have hv3 := (hv2.below hb3).more hb3.size; have hb3 := hb2.trans (hb3.mono hb2.size); clear hx2 hv2 hb2; go_wp2_with fail; refine (putFact_any w3).mono ?_; rintro e w4 ⟨rfl, hb4⟩; have hx4 := (hx3.below hb4).more hb4.size; have hv4 := (hv3.below hb4).more hb4.size; have hb4 := hb3.trans (hb4.mono hb3.size); clear hx3 hv3 hb3)
    go_wp2
    go_ret
    exact ⟨rfl, hb4⟩
  · have d1 : decide (a < 0) = false := by simpa using h3
    rcases Int.lt_or_le b.length a with h4 | h4
    · have d2 : decide ((b.length : Int) < a) = true := by simpa using h4
      go_enter Try.func6, Try.ntmps6
      (go_wp2_with fail; refine (fillRange_any k w).mono ?_; rintro e w' ⟨rfl, rfl⟩; go_wp2_with fail; refine (value_any k from_ to_ add w hf0 hf1).mono ?_; rintro e w' ⟨rfl, rfl⟩; rw [HV.out]; go_wp2_with fail; refine (put_any k a n A c b w h hm).mono ?_; rintro e w1 ⟨v, rfl, ⟨A1, c1, rfl, hv⟩, hb1⟩; rw [HP.out] at hv ⊢; have hx1 := (h.below hb1).more hb1.size; go_wp2_with fail; refine (get_any k a A c b w1 hx1 hm).mono ?_; rintro e w' ⟨rfl, rfl⟩; rw [HG.out]; go_wp2_with fail; refine (bounds_any k w1).mono ?_; rintro e w2 ⟨rfl, hb2⟩; have hx2 := (hx1.below hb2).more hb2.size; have hv2 := (hv.below hb2).more hb2.size; have hb2 := hb1.trans (hb2.mono hb1.size); clear hx1 hv hb1; go_wp2_with fail; refine (valueOf_any k from_ to_ add w2 hf0 hf1).mono ?_; rintro e w3 ⟨rfl, hb3⟩; rw [HV.out]; have hx3 := (hx2.below hb3).more hb3.size; have hv3 := (hv2.below hb3).more hb3.size; have hb3 := hb2.trans (hb3.mono hb2.size); clear hx2 hv2 hb2; go_wp2_with fail; refine (putFact_any w3).mono ?_; rintro e w4 ⟨rfl, hb4⟩; have hx4 := (hx3.below hb4).more hb4.size; have hv4 := (hv3.below hb4).more hb4.size; have hb4 := hb3.trans (hb4.mono hb3.size); clear hx3 hv3 hb3)
      go_wp2
      go_ret
      exact ⟨rfl, hb4⟩
    · have d2 : decide ((b.length : Int) < a) = false := by simpa using h4
      have d3 : decide ((b.length : Int) < a + wideOf k) = true := by have := H2.out; simp; omega
      go_enter Try.func6, Try.ntmps6
      (go_wp2_with fail; refine (fillRange_any k w).mono ?_; rintro e w' ⟨rfl, rfl⟩; go_wp2_with fail; refine (value_any k from_ to_ add w hf0 hf1).mono ?_; rintro e w' ⟨rfl, rfl⟩; rw [HV.out]; go_wp2_with fail; refine (put_any k a n A c b w h hm).mono ?_; rintro e w1 ⟨v, rfl, ⟨A1, c1, rfl, hv⟩, hb1⟩; rw [HP.out] at hv ⊢; have hx1 := (h.below hb1).more hb1.size; go_wp2_with fail; refine (get_any k a A c b w1 hx1 hm).mono ?_; rintro e w' ⟨rfl, rfl⟩; rw [HG.out]; go_wp2_with fail; refine (bounds_any k w1).mono ?_; rintro e w2 ⟨rfl, hb2⟩; have hx2 := (hx1.below hb2).more hb2.size; have hv2 := (hv.below hb2).more hb2.size; have hb2 := hb1.trans (hb2.mono hb1.size); clear hx1 hv hb1; go_wp2_with fail; refine (valueOf_any k from_ to_ add w2 hf0 hf1).mono ?_; rintro e w3 ⟨rfl, hb3⟩; rw [HV.out]; have hx3 := (hx2.below hb3).more hb3.size; have hv3 := (hv2.below hb3).more hb3.size; have hb3 := hb2.trans (hb3.mono hb2.size); clear hx2 hv2 hb2; go_wp2_with fail; refine (putFact_any w3).mono ?_; rintro e w4 ⟨rfl, hb4⟩; have hx4 := (hx3.below hb4).more hb4.size; have hv4 := (hv3.below hb4).more hb4.size; have hb4 := hb3.trans (hb4.mono hb3.size); clear hx3 hv3 hb3)
      go_wp2_with fail
      refine (wideOf_any k w4).mono ?_
      rintro e w5 ⟨rfl, hb5⟩
      go_wp2
      go_ret
      exact ⟨rfl, hb4.trans (hb5.mono hb4.size)⟩
end Go.Proofs.Ytjpkjcmphjnbhaa
