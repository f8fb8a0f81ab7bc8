/- Images as plain data, and what load.Check says of them. No program in sight. -/
import Derived.Test.YtjpkjcmphjnbhaaMem
namespace Go.Proofs.Ytjpkjcmphjnbhaa
open Go.RowKit

def byteV (b : UInt8) : Value := .int .u8 (b.toNat : Int)
def bytesV (l : List UInt8) : List Value := l.map byteV

/-- A segment; 'ba', 'bc': where its bytes lie, and how much room there is: no part of what it says. -/
structure Seg where
  At : Int
  Bytes : List UInt8
  Zeros : Int
  Writes : Bool
  Works : Bool
  ba : Option Addr
  bc : Nat

def Seg.cells (s : Seg) : List Value := [.int .i64 s.At, .slice s.ba s.Bytes.length s.bc, .int .i64 s.Zeros, .bool s.Writes, .bool s.Works]

structure SegsAt (w : World) (B : Nat) (A : Option Addr) (segs : List Seg) : Prop where
  row : Reads w B 5 A segs.length (segs.flatMap Seg.cells)
  each : ∀ s ∈ segs, Reads w B 1 s.ba s.Bytes.length (bytesV s.Bytes)
  small : segs.length ≤ 9223372036854775807
  smalls : ∀ s ∈ segs, s.Bytes.length ≤ 9223372036854775807

theorem SegsAt.below {w w' : World} {A : Option Addr} {segs : List Seg} (h : SegsAt w w.heap.size A segs) (hb : Below w.heap.size w w') : SegsAt w' w'.heap.size A segs :=
  ⟨(h.row.below hb).more hb.size, fun s hs => ((h.each s hs).below hb).more hb.size, h.small, h.smalls⟩

def Seg.bad (s : Seg) (e : Int) : Bool := decide (s.At < e) || decide (s.At > 65536) || decide (s.Zeros < 0) || decide (s.Zeros > 65536) || decide ((s.Bytes.length : Int) > 65536)

def ckSegs : List Seg → Int → Int
  | [], _ => 0
  | s :: r, e => if s.bad e then 3 else if s.At + s.Bytes.length + s.Zeros > 65536 then 10 else ckSegs r (s.At + s.Bytes.length + s.Zeros)

def ckImg (entry : Int) (segs : List Seg) : Int :=
  if segs.length > 12 then 2 else if ckSegs segs 0 ≠ 0 then ckSegs segs 0 else if entry < 0 ∨ entry > 65536 then 3 else 0

theorem ckImg_many {entry : Int} {segs : List Seg} (h : 12 < (segs.length : Int)) : ckImg entry segs = 2 := by
  unfold ckImg; rw [if_pos (by omega)]
theorem ckImg_stop {entry : Int} {segs r : List Seg} {k : Nat} {en v : Int} {s : Seg} (h12 : (segs.length : Int) ≤ 12) (hck : ckSegs segs 0 = ckSegs (segs.drop k) en)
    (hd : segs.drop k = s :: r) (hv : ckSegs (s :: r) en = v) (h0 : v ≠ 0) : ckImg entry segs = v := by
  unfold ckImg; rw [if_neg (by omega), hck, hd, hv, if_pos h0]
theorem ckImg_end {entry : Int} {segs : List Seg} {k : Nat} {en : Int} (h12 : (segs.length : Int) ≤ 12) (hck : ckSegs segs 0 = ckSegs (segs.drop k) en)
    (hk : segs.length ≤ k) : ckImg entry segs = if entry < 0 ∨ entry > 65536 then 3 else 0 := by
  unfold ckImg; rw [if_neg (by omega), hck, List.drop_eq_nil_of_le hk]; simp [ckSegs]
theorem ckSegs_bad {s : Seg} {r : List Seg} {en : Int} (h : s.At < en ∨ 65536 < s.At ∨ s.Zeros < 0 ∨ 65536 < s.Zeros ∨ 65536 < (s.Bytes.length : Int)) : ckSegs (s :: r) en = 3 := by
  rw [ckSegs, if_pos]; simp only [Seg.bad, Bool.or_eq_true, decide_eq_true_eq]; omega
theorem ckSegs_over {s : Seg} {r : List Seg} {en : Int} (h0 : en ≤ s.At) (h1 : s.At ≤ 65536) (h2 : 0 ≤ s.Zeros) (h3 : s.Zeros ≤ 65536) (h4 : (s.Bytes.length : Int) ≤ 65536) (h5 : 65536 < s.At + s.Bytes.length + s.Zeros) : ckSegs (s :: r) en = 10 := by
  rw [ckSegs, if_neg, if_pos h5]; simp only [Seg.bad, Bool.or_eq_true, decide_eq_true_eq]; omega
theorem ckSegs_next {s : Seg} {r : List Seg} {en : Int} (h0 : en ≤ s.At) (h1 : s.At ≤ 65536) (h2 : 0 ≤ s.Zeros) (h3 : s.Zeros ≤ 65536) (h4 : (s.Bytes.length : Int) ≤ 65536) (h5 : s.At + s.Bytes.length + s.Zeros ≤ 65536) : ckSegs (s :: r) en = ckSegs r (s.At + s.Bytes.length + s.Zeros) := by
  rw [ckSegs, if_neg, if_neg (by omega)]; simp only [Seg.bad, Bool.or_eq_true, decide_eq_true_eq]; omega

theorem flatMap5_get (segs : List Seg) (k j : Nat) (hj : j < 5) (hk : k < segs.length) :
    (segs.flatMap Seg.cells)[k * 5 + j]? = (segs[k].cells)[j]? := by
  induction segs generalizing k with
  | nil => simp at hk
  | cons s r ih =>
    rw [List.flatMap_cons]
    rcases k with _ | k
    · rw [List.getElem?_append_left (by simp [Seg.cells]; omega)]
      simp
    · rw [List.getElem?_append_right (by simp [Seg.cells]; omega)]
      have : (k + 1) * 5 + j - s.cells.length = k * 5 + j := by simp [Seg.cells]; omega
      rw [this, ih k (by simpa using hk)]
      simp
/-! ### a byte at an address -/
def Seg.has (s : Seg) (at_ : Int) : Bool := decide (s.At ≤ at_) && decide (at_ - s.At < s.Bytes.length + s.Zeros)
def Seg.byte (s : Seg) (at_ : Int) : UInt8 := s.Bytes.getD (at_ - s.At).toNat 0
def lookAt : List Seg → Int → Nat → Option (Nat × Seg)
  | [], _, _ => none
  | s :: r, a, k => if s.has a then some (k, s) else lookAt r a (k + 1)
structure ByteRes where
  b : UInt8
  there : Bool
  writes : Bool
  works : Bool
  e : Int
def byteRes (entry : Int) (segs : List Seg) (a : Int) : ByteRes :=
  if ckImg entry segs ≠ 0 then ⟨0, false, false, false, ckImg entry segs⟩
  else match lookAt segs a 0 with
    | none => ⟨0, false, false, false, 0⟩
    | some (_, s) => ⟨s.byte a, true, s.Writes, s.Works, 0⟩
def ByteRes.val (r : ByteRes) : Value := .tuple #[.int .u8 (r.b.toNat : Int), .bool r.there, .bool r.writes, .bool r.works, .int .i64 r.e]
def idxOf : Option (Nat × Seg) → Int
  | none => -1
  | some (k, _) => k
def byteOf (a : Int) : Option (Nat × Seg) → UInt8
  | none => 0
  | some (_, s) => s.byte a

def wrOf : Option (Nat × Seg) → Bool
  | none => false
  | some (_, s) => s.Writes
def wkOf : Option (Nat × Seg) → Bool
  | none => false
  | some (_, s) => s.Works
theorem byteRes_good {entry : Int} {segs : List Seg} {a : Int} (h : ckImg entry segs = 0) :
    byteRes entry segs a = ⟨byteOf a (lookAt segs a 0), (lookAt segs a 0).isSome, wrOf (lookAt segs a 0), wkOf (lookAt segs a 0), 0⟩ := by
  unfold byteRes; rw [if_neg (by omega)]; cases lookAt segs a 0 <;> rfl

theorem lookAt_hit {s : Seg} {r : List Seg} {a : Int} {k : Nat} (h : s.At ≤ a) (h1 : a - s.At < s.Bytes.length + s.Zeros) : lookAt (s :: r) a k = some (k, s) := by
  rw [lookAt, if_pos]; simp [Seg.has, h, h1]
theorem lookAt_miss {s : Seg} {r : List Seg} {a : Int} {k : Nat} (h : a < s.At ∨ s.Bytes.length + s.Zeros ≤ a - s.At) : lookAt (s :: r) a k = lookAt r a (k + 1) := by
  rw [lookAt, if_neg]; simp only [Seg.has, Bool.and_eq_true, decide_eq_true_eq]; omega

theorem lookAt_idx : ∀ (segs : List Seg) (a : Int) (k j : Nat) (s : Seg), lookAt segs a k = some (j, s) → k ≤ j ∧ segs[j - k]? = some s
  | [], _, _, _, _, h => by cases h
  | x :: r, a, k, j, s, h => by
    rw [lookAt] at h
    split at h
    · cases h
      simp
    · obtain ⟨h1, h2⟩ := lookAt_idx r a (k + 1) j s h
      refine ⟨by omega, ?_⟩
      rw [show j - k = (j - (k + 1)) + 1 from by omega, List.getElem?_cons_succ]
      exact h2

structure Seg.Fine (s : Seg) : Prop where
  at0 : 0 ≤ s.At
  at1 : s.At ≤ 65536
  z0 : 0 ≤ s.Zeros
  z1 : s.Zeros ≤ 65536
  len : (s.Bytes.length : Int) ≤ 65536
theorem ckSegs_fine : ∀ (segs : List Seg) (e : Int), 0 ≤ e → ckSegs segs e = 0 → ∀ s ∈ segs, s.Fine
  | [], _, _, _ => fun s hs => by cases hs
  | s :: r, e, he, h => by
    rw [ckSegs] at h
    split at h
    · cases h
    · rename_i hb
      simp only [Seg.bad, Bool.or_eq_true, decide_eq_true_eq] at hb
      split at h
      · cases h
      · intro x hx
        rcases List.mem_cons.1 hx with rfl | hx
        · exact ⟨by omega, by omega, by omega, by omega, by omega⟩
        · exact ckSegs_fine r _ (by omega) h x hx
theorem ckImg_fine {entry : Int} {segs : List Seg} (h : ckImg entry segs = 0) : (∀ s ∈ segs, s.Fine) ∧ segs.length ≤ 12 := by
  unfold ckImg at h
  split at h
  · cases h
  · split at h
    · exact absurd h (by assumption)
    · rename_i h1 h2
      exact ⟨ckSegs_fine segs 0 (by omega) (by omega), by omega⟩
theorem byteRes_bad {entry : Int} {segs : List Seg} {a : Int} (h : ckImg entry segs ≠ 0) : byteRes entry segs a = ⟨0, false, false, false, ckImg entry segs⟩ := by
  unfold byteRes; rw [if_pos h]
theorem byteRes_hit {entry : Int} {segs : List Seg} {a : Int} {k : Nat} {s : Seg} (h : ckImg entry segs = 0) (hl : lookAt segs a 0 = some (k, s)) : byteRes entry segs a = ⟨s.byte a, true, s.Writes, s.Works, 0⟩ := by
  unfold byteRes; rw [if_neg (by omega), hl]
theorem byteRes_none {entry : Int} {segs : List Seg} {a : Int} (h : ckImg entry segs = 0) (hl : lookAt segs a 0 = none) : byteRes entry segs a = ⟨0, false, false, false, 0⟩ := by
  unfold byteRes; rw [if_neg (by omega), hl]
theorem byte_in {s : Seg} {a : Int} (h1 : (a - s.At).toNat < s.Bytes.length) : s.byte a = s.Bytes[(a - s.At).toNat] := by
  simp [Seg.byte, h1]
theorem byte_out {s : Seg} {a : Int} (h1 : s.Bytes.length ≤ (a - s.At).toNat) : s.byte a = 0 := by
  simp [Seg.byte, h1]
theorem bytesV_get {l : List UInt8} {k : Nat} (h : k < l.length) : (bytesV l)[k]? = some (.int .u8 (l[k].toNat : Int)) := by
  simp [bytesV, byteV, h]

/-! ### a row of bytes -/
def rangeB (segs : List Seg) (a : Int) : Nat → Option (List UInt8)
  | 0 => some []
  | n + 1 => match rangeB segs a n, lookAt segs (a + n) 0 with
    | some l, some (_, s) => some (l ++ [s.byte (a + n)])
    | _, _ => none
theorem rangeB_len {segs : List Seg} {a : Int} : ∀ {n : Nat} {l : List UInt8}, rangeB segs a n = some l → l.length = n
  | 0, l, h => by simp [rangeB] at h; subst h; rfl
  | n + 1, l, h => by
    rw [rangeB] at h
    split at h
    · rename_i l' s' hl hs
      cases h
      simp [rangeB_len hl]
    · cases h
theorem rangeB_step {segs : List Seg} {a : Int} {n k : Nat} {l : List UInt8} {s : Seg} (h : rangeB segs a n = some l) (hl : lookAt segs (a + n) 0 = some (k, s)) : rangeB segs a (n + 1) = some (l ++ [s.byte (a + n)]) := by
  rw [rangeB, h, hl]
theorem rangeB_none {segs : List Seg} {a : Int} {n : Nat} (hl : lookAt segs (a + n) 0 = none) : rangeB segs a (n + 1) = none := by
  rw [rangeB, hl]; cases rangeB segs a n <;> rfl
theorem rangeB_more {segs : List Seg} {a : Int} {n m : Nat} (h : rangeB segs a n = none) (hm : n ≤ m) : rangeB segs a m = none := by
  induction m with
  | zero => obtain rfl : n = 0 := by omega
            exact h
  | succ m ih =>
    rcases Nat.lt_or_ge n (m + 1) with h1 | h1
    · rw [rangeB, ih (by omega)]
    · obtain rfl : n = m + 1 := by omega
      exact h
def rangeRes (entry : Int) (segs : List Seg) (a n : Int) : List UInt8 × Int :=
  if ckImg entry segs ≠ 0 then ([], ckImg entry segs)
  else if a < 0 ∨ n < 0 ∨ a > 65536 ∨ n > 64 then ([], 3)
  else match rangeB segs a n.toNat with
    | none => ([], 5)
    | some l => (l, 0)

theorem rangeRes_bad {entry : Int} {segs : List Seg} {a n : Int} (h : ckImg entry segs ≠ 0) : rangeRes entry segs a n = ([], ckImg entry segs) := by
  unfold rangeRes; rw [if_pos h]
theorem rangeRes_off {entry : Int} {segs : List Seg} {a n : Int} (h : ckImg entry segs = 0) (h1 : a < 0 ∨ n < 0 ∨ a > 65536 ∨ n > 64) : rangeRes entry segs a n = ([], 3) := by
  unfold rangeRes; rw [if_neg (by omega), if_pos h1]
theorem rangeRes_none {entry : Int} {segs : List Seg} {a n : Int} (h : ckImg entry segs = 0) (h1 : ¬ (a < 0 ∨ n < 0 ∨ a > 65536 ∨ n > 64)) (h2 : rangeB segs a n.toNat = none) : rangeRes entry segs a n = ([], 5) := by
  unfold rangeRes; rw [if_neg (by omega), if_neg h1, h2]
theorem rangeRes_some {entry : Int} {segs : List Seg} {a n : Int} {l : List UInt8} (h : ckImg entry segs = 0) (h1 : ¬ (a < 0 ∨ n < 0 ∨ a > 65536 ∨ n > 64)) (h2 : rangeB segs a n.toNat = some l) : rangeRes entry segs a n = (l, 0) := by
  unfold rangeRes; rw [if_neg (by omega), if_neg h1, h2]

/-- The slice value v reads as the bytes l. -/
def BytesAt (w : World) (v : Value) (l : List UInt8) : Prop := ∃ A c, v = .slice A l.length c ∧ Reads w w.heap.size 1 A l.length (bytesV l)
theorem BytesAt.nil (w : World) : BytesAt w (.slice none 0 0) [] := ⟨none, 0, rfl, Reads.none_⟩
end Go.Proofs.Ytjpkjcmphjnbhaa
