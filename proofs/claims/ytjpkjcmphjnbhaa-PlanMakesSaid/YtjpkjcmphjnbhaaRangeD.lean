/- Rows of bytes of an image: beginnings, rests, single bytes. No program in sight. -/
import Derived.Test.YtjpkjcmphjnbhaaLoadD
namespace Go.Proofs.Ytjpkjcmphjnbhaa

theorem rangeB_iff {segs : List Seg} {a : Int} : ∀ {n : Nat} {l : List UInt8}, rangeB segs a n = some l ↔ l.length = n ∧ ∀ i, i < n → ∃ j s, lookAt segs (a + i) 0 = some (j, s) ∧ l[i]? = some (s.byte (a + i))
  | 0, l => by
    simp only [rangeB, Option.some.injEq]
    constructor
    · rintro rfl; exact ⟨rfl, fun i hi => by omega⟩
    · rintro ⟨h, _⟩; exact (List.eq_nil_of_length_eq_zero h).symm
  | n + 1, l => by
    constructor
    · intro h
      refine ⟨rangeB_len h, ?_⟩
      rw [rangeB] at h
      split at h
      · rename_i l' j s' hl hs
        cases h
        obtain ⟨h1, h2⟩ := rangeB_iff.1 hl
        intro i hi
        rcases Nat.lt_or_ge i n with hlt | hge
        · obtain ⟨j, s, e1, e2⟩ := h2 i hlt
          exact ⟨j, s, e1, by rw [List.getElem?_append_left (by omega)]; exact e2⟩
        · obtain rfl : i = n := by omega
          exact ⟨_, _, hs, by rw [List.getElem?_append_right (by omega), h1]; simp⟩
      · cases h
    · rintro ⟨h1, h2⟩
      obtain ⟨j, s, e1, e2⟩ := h2 n (by omega)
      have hd : l = l.take n ++ [s.byte (a + n)] := by
        apply List.ext_getElem?
        intro i
        rcases Nat.lt_or_ge i n with hlt | hge
        · rw [List.getElem?_append_left (by simp; omega), List.getElem?_take_of_lt hlt]
        · rcases Nat.lt_or_ge n i with h3 | h3
          · rw [List.getElem?_eq_none (by omega), List.getElem?_eq_none (by simp; omega)]
          · obtain rfl : i = n := by omega
            rw [List.getElem?_append_right (by simp; omega), List.length_take, e2]
            simp [h1]
      have hr : rangeB segs a n = some (l.take n) := rangeB_iff.2 ⟨by simp; omega, fun i hi => by
        obtain ⟨j, s, e3, e4⟩ := h2 i (by omega)
        exact ⟨j, s, e3, by rw [List.getElem?_take_of_lt hi]; exact e4⟩⟩
      rw [hd]
      exact rangeB_step hr e1

theorem rangeB_take {segs : List Seg} {a : Int} {n k : Nat} {l : List UInt8} (h : rangeB segs a n = some l) (hk : k ≤ n) : rangeB segs a k = some (l.take k) := by
  obtain ⟨h1, h2⟩ := rangeB_iff.1 h
  refine rangeB_iff.2 ⟨by simp; omega, fun i hi => ?_⟩
  obtain ⟨j, s, e1, e2⟩ := h2 i (by omega)
  exact ⟨j, s, e1, by rw [List.getElem?_take_of_lt hi]; exact e2⟩
theorem rangeB_drop {segs : List Seg} {a : Int} {n k : Nat} {l : List UInt8} (h : rangeB segs a n = some l) (hk : k ≤ n) : rangeB segs (a + k) (n - k) = some (l.drop k) := by
  obtain ⟨h1, h2⟩ := rangeB_iff.1 h
  refine rangeB_iff.2 ⟨by simp; omega, fun i hi => ?_⟩
  obtain ⟨j, s, e1, e2⟩ := h2 (k + i) (by omega)
  have e : a + (k : Int) + (i : Int) = a + ((k + i : Nat) : Int) := by omega
  rw [e]
  exact ⟨j, s, e1, by rw [List.getElem?_drop]; exact e2⟩
theorem rangeB_at {segs : List Seg} {a : Int} {n i : Nat} {l : List UInt8} (h : rangeB segs a n = some l) (hi : i < n) : ∃ j s, lookAt segs (a + i) 0 = some (j, s) ∧ l[i]? = some (s.byte (a + i)) :=
  (rangeB_iff.1 h).2 i hi
/-- What an answer of Range without an error says. -/
theorem rangeRes_ok {entry : Int} {segs : List Seg} {a n : Int} (h : (rangeRes entry segs a n).2 = 0) :
    ckImg entry segs = 0 ∧ 0 ≤ a ∧ a ≤ 65536 ∧ 0 ≤ n ∧ n ≤ 64 ∧ ∃ l, rangeB segs a n.toNat = some l ∧ rangeRes entry segs a n = (l, 0) := by
  by_cases hck : ckImg entry segs = 0
  · by_cases ho : a < 0 ∨ n < 0 ∨ a > 65536 ∨ n > 64
    · rw [rangeRes_off hck ho] at h; simp at h
    · refine ⟨hck, by omega, by omega, by omega, by omega, ?_⟩
      rcases hr : rangeB segs a n.toNat with _ | l
      · rw [rangeRes_none hck ho hr] at h; simp at h
      · exact ⟨l, rfl, rangeRes_some hck ho hr⟩
  · rw [rangeRes_bad hck] at h; exact absurd h hck

theorem emod_of_tmod (k n : Int) (hn : 0 < n) : k % n = if k.tmod n < 0 then k.tmod n + n else k.tmod n := by
  have h1 : k % n = (k.tmod n) % n := by
    conv => lhs; rw [← Int.mul_tdiv_add_tmod k n]
    rw [Int.add_comm, Int.add_mul_emod_self_left]
  have h2 : k.tmod n < n := Int.tmod_lt_of_pos k hn
  have h3 : -n < k.tmod n := by
    have := Int.tmod_lt_of_pos (-k) hn
    rw [Int.neg_tmod] at this
    omega
  rw [h1]
  split
  · rw [← Int.add_emod_right, Int.emod_eq_of_lt (by omega) (by omega)]
  · exact Int.emod_eq_of_lt (by omega) (by omega)
theorem tmod_bounds (k n : Int) (hn : 0 < n) : -n < k.tmod n ∧ k.tmod n < n := by
  refine ⟨?_, Int.tmod_lt_of_pos k hn⟩
  have := Int.tmod_lt_of_pos (-k) hn
  rw [Int.neg_tmod] at this
  omega
end Go.Proofs.Ytjpkjcmphjnbhaa
