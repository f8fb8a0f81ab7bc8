/- What is ready, of a plan. No program in sight. -/
import Derived.Test.YtkfmkemjoddinaaPlB
set_option linter.all false
namespace Go.Proofs.Ytkfmkemjoddinaa

theorem readyUpto_mem {l : List Nd} {done : List Bool} : ∀ {k : Nat} {n : Int}, n ∈ readyUpto l done k ↔ ∃ i : Nat, n = i ∧ i < k ∧ readyAt l done i = true
  | 0, n => by simp [readyUpto]
  | k + 1, n => by
    rw [readyUpto]
    have ih := readyUpto_mem (l := l) (done := done) (k := k) (n := n)
    constructor
    · intro h
      split at h
      · rename_i hk
        rcases List.mem_append.1 h with h | h
        · obtain ⟨i, h1, h2, h3⟩ := ih.1 h
          exact ⟨i, h1, by omega, h3⟩
        · simp at h; exact ⟨k, h, by omega, hk⟩
      · obtain ⟨i, h1, h2, h3⟩ := ih.1 h
        exact ⟨i, h1, by omega, h3⟩
    · rintro ⟨i, h1, h2, h3⟩
      rcases Nat.lt_or_ge i k with hi | hi
      · have := ih.2 ⟨i, h1, hi, h3⟩
        split
        · exact List.mem_append_left _ this
        · exact this
      · obtain rfl : i = k := by omega
        rw [if_pos h3]
        exact List.mem_append_right _ (by simp [h1])

theorem readyUpto_sorted (l : List Nd) (done : List Bool) : ∀ k, (readyUpto l done k).Pairwise (· < ·)
  | 0 => by simp [readyUpto]
  | k + 1 => by
    rw [readyUpto]
    split
    · rw [List.pairwise_append]
      refine ⟨readyUpto_sorted l done k, by simp, fun a ha b hb => ?_⟩
      obtain ⟨i, h1, h2, _⟩ := readyUpto_mem.1 ha
      simp at hb
      omega
    · exact readyUpto_sorted l done k

/-- Where a node isn't done, some node can be. -/
theorem ready_some {l : List Nd} {done : List Bool} {parts : Int} (hf : Falls l parts) (hl : done.length = l.length) : ∀ i : Nat, done[i]? = some false → ∃ j, j < l.length ∧ readyAt l done j = true := by
  intro i
  induction i using Nat.strongRecOn with
  | _ i ih =>
    intro hi
    have hlt : i < l.length := by rw [← hl]; exact (List.getElem?_eq_some_iff.1 hi).1
    have hx : l[i]? = some l[i] := List.getElem?_eq_getElem hlt
    by_cases h0 : 0 ≤ l[i].leaf
    · exact ⟨i, hlt, readyAt_leaf hx hi h0⟩
    · have hb := hf i _ hx
      unfold Nd.bad at hb
      rw [if_neg h0] at hb
      obtain ⟨a, ha⟩ : ∃ a : Nat, l[i].left = a := ⟨l[i].left.toNat, by omega⟩
      obtain ⟨d, hd⟩ : ∃ d : Nat, l[i].right = d := ⟨l[i].right.toNat, by omega⟩
      have ea : done[a]? = some (done[a]'(by omega)) := List.getElem?_eq_getElem _
      have ed : done[d]? = some (done[d]'(by omega)) := List.getElem?_eq_getElem _
      by_cases ha' : done[a]'(by omega) = true
      · by_cases hd' : done[d]'(by omega) = true
        · refine ⟨i, hlt, ?_⟩
          rw [readyAt_node hx hi h0 ha hd ea ed, ha', hd']; rfl
        · exact ih d (by omega) (by rw [ed]; simp at hd'; rw [hd'])
      · exact ih a (by omega) (by rw [ea]; simp at ha'; rw [ha'])
/-- What it means that a node can be done. -/
theorem ready_cases {l : List Nd} {done : List Bool} {parts : Int} (hf : Falls l parts) (hl : done.length = l.length) {n : Nat} (h : readyAt l done n = true) :
    done[n]? = some false ∧ ∃ x, l[n]? = some x ∧ (0 ≤ x.leaf ∨ (¬ 0 ≤ x.leaf ∧ ∃ a d : Nat, x.left = a ∧ x.right = d ∧ a < n ∧ d < n ∧ done[a]? = some true ∧ done[d]? = some true)) := by
  unfold readyAt at h
  split at h
  · rename_i x e1 e2
    refine ⟨e2, x, e1, ?_⟩
    by_cases h0 : 0 ≤ x.leaf
    · exact .inl h0
    · refine .inr ⟨h0, ?_⟩
      have hb := hf n x e1
      unfold Nd.bad at hb
      rw [if_neg h0] at hb
      obtain ⟨a, ha⟩ : ∃ a : Nat, x.left = a := ⟨x.left.toNat, by omega⟩
      obtain ⟨d, hd⟩ : ∃ d : Nat, x.right = d := ⟨x.right.toNat, by omega⟩
      simp only [ha, hd, Int.toNat_natCast, decide_eq_false h0, Bool.false_or, Bool.and_eq_true, beq_iff_eq] at h
      exact ⟨a, d, ha, hd, by omega, by omega, h.1, h.2⟩
  · cases h
theorem boolsV_set (done : List Bool) (n : Nat) (b : Bool) : (boolsV done).toArray.setIfInBounds n (.bool b) = (boolsV (done.set n b)).toArray := by
  unfold boolsV; rw [List.setIfInBounds_toArray, List.map_set]
theorem boolsV_at {done : List Bool} {n : Nat} {b : Bool} (h : done[n]? = some b) : (boolsV done).toArray[n]? = some (.bool b) := by
  unfold boolsV; simp [h]
theorem count_done {done : List Bool} {n k : Nat} (h : done[n]? = some false) (hk : done.count true = k) : (done.set n true).count true = k + 1 := by
  obtain ⟨hn, hv⟩ := List.getElem?_eq_some_iff.1 h
  rw [List.count_set hn, hv, hk]; simp
end Go.Proofs.Ytkfmkemjoddinaa
