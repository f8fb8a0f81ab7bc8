/- ropewalklaw.LinkMoved: the call returns true. -/
import Derived.Test.YtbhjdinjoonngaaLinkL
set_option linter.all false
namespace Go.Proofs.Ytbhjdinjoonngaa
open Go.RowKit

theorem linkP_zero {p : Prt} {base : Int} {entry : ByteArray} (h : (linkP p base entry).2.2 = 0) : linkE p base entry = 0 := by
  by_cases h1 : linkE p base entry = 0
  · exact h1
  · rw [linkP_bad h1] at h
    exact h
theorem linkP_fl {p : Prt} {base : Nat} {entry : ByteArray} (h : linkE p base entry = 0) : (linkP p base entry).2.1 = linkFl p base entry := by
  by_cases h1 : linkFl p base entry = []
  · rw [linkP_ok h h1, h1]
  · rw [linkP_told h h1]
theorem linkP_err {p : Prt} {base : Nat} {entry : ByteArray} (h : linkE p base entry = 0) : (linkP p base entry).2.2 = 0 := by
  by_cases h1 : linkFl p base entry = []
  · rw [linkP_ok h h1]
  · rw [linkP_told h h1]
/-- Two segments, the second one sixteen addresses farther on. -/
structure SgFar (x y : Seg) : Prop where
  at_ : y.At = x.At + 16
  len : y.Bytes.length = x.Bytes.length
  z : y.Zeros = x.Zeros
  wr : y.Writes = x.Writes
  wk : y.Works = x.Works
  a0 : 0 ≤ x.At
  a1 : x.At ≤ 65536
theorem sg_far {p : Prt} {n : Nat} {sects : List Int} {f la : Nat} (h : layE p n = 0) (h' : layE p ((n + 16 : Nat) : Int) = 0) (ht : Trio sects f la) (hx5 : la = 5 → f ≤ 4) {x y : Seg} (hx : x.er = (segP p n f la sects).seg) (hy : y.er = (segP p (n + 16) f la sects).seg) : SgFar x y := by
  obtain ⟨a1, a2, a3, a4, a5⟩ := er_at hx
  obtain ⟨b1, b2, b3, b4, b5⟩ := er_at hy
  obtain ⟨m1, m2, m3, m4, m5⟩ := seg_moved h h' ht
  obtain ⟨o1, o2, o3⟩ := seg_order h ht hx5
  have o4 : (segP p n f la sects).at_ ≤ 65536 := by show secFrom p.frs n f ≤ 65536; omega
  exact ⟨by rw [b1, a1, m1]; omega, by rw [b2, a2, m2], by rw [b3, a3, m3], by rw [b4, a4, m4], by rw [b5, a5, m5], by rw [a1]; omega, by rw [a1]; omega⟩

end Go.Proofs.Ytbhjdinjoonngaa
