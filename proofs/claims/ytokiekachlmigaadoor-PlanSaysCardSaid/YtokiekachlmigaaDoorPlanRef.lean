/- What the document says of a plan comes to what plan.Check says. No program in sight. -/
import Derived.Test.YtokiekachlmigaaDoorBA
set_option linter.all false
namespace Go.Proofs.YtokiekachlmigaaDoor

/-- The numbers c, c + 1, .. . -/
def iota (c : Int) (n : Nat) : List Int := (List.range n).map fun t : Nat => c + (t : Int)
theorem iota_len (c : Int) (n : Nat) : (iota c n).length = n := by simp [iota]
theorem iota_get {c : Int} {n i : Nat} (h : i < n) : (iota c n)[i]? = some (c + i) := by simp [iota, h]
theorem iota_append (c : Int) (n m : Nat) : iota c n ++ iota (c + n) m = iota c (n + m) := by
  refine List.ext_getElem? fun i => ?_
  by_cases h1 : i < n
  · rw [List.getElem?_append_left (by rw [iota_len]; exact h1), iota_get h1, iota_get (by omega)]
  · by_cases h2 : i < n + m
    · rw [List.getElem?_append_right (by rw [iota_len]; omega), iota_len, iota_get (by omega), iota_get h2]
      congr 1
      omega
    · rw [List.getElem?_eq_none (by rw [List.length_append, iota_len, iota_len]; omega), List.getElem?_eq_none (by rw [iota_len]; omega)]
theorem iota_split {c : Int} {n : Nat} {A B : List Int} (h : A ++ B = iota c n) : A = iota c A.length ∧ B = iota (c + A.length) B.length := by
  have hn : n = A.length + B.length := by have := congrArg List.length h; rw [List.length_append, iota_len] at this; omega
  rw [hn, ← iota_append] at h
  exact List.append_inj h (by rw [iota_len])
theorem iota_inj {c d : Int} {n m : Nat} (h : iota c n = iota d m) (hn : 0 < n) : c = d ∧ n = m := by
  have h1 : n = m := by have := congrArg List.length h; rwa [iota_len, iota_len] at this
  subst h1
  have h2 : (iota c n)[0]? = (iota d n)[0]? := by rw [h]
  rw [iota_get hn, iota_get hn] at h2
  injection h2 with h2
  exact ⟨by omega, rfl⟩

def aboveF (x : Nd) : List Int := if 0 ≤ x.leaf then [] else [x.left, x.right]
def aboveOf (l : List Nd) : List Int := l.flatMap aboveF
theorem above_take {l : List Nd} {k : Nat} {x : Nd} (h : l[k]? = some x) : aboveOf (l.take (k + 1)) = aboveOf (l.take k) ++ aboveF x := by
  unfold aboveOf
  rw [List.take_add_one, h, List.flatMap_append]; simp
theorem above_len (l : List Nd) : (aboveOf l).length ≤ 2 * l.length := by
  induction l with
  | nil => simp [aboveOf]
  | cons x r ih =>
    unfold aboveOf at ih ⊢
    rw [List.flatMap_cons, List.length_append, List.length_cons]
    have : (aboveF x).length ≤ 2 := by unfold aboveF; split <;> simp
    omega
theorem aboveF_count (x : Nd) (j : Nat) : ((aboveF x).count (j : Int) : Int) = x.cnt j := by
  unfold aboveF Nd.cnt
  split
  · simp
  · rw [List.count_cons, List.count_cons, List.count_nil]
    by_cases h1 : x.left = j <;> by_cases h2 : x.right = j <;> simp [h1, h2]
theorem above_count (l : List Nd) (j : Nat) : ((aboveOf l).count (j : Int) : Int) = refs l j := by
  induction l with
  | nil => simp [aboveOf, refs]
  | cons x r ih =>
    have : aboveOf (x :: r) = aboveF x ++ aboveOf r := by unfold aboveOf; rw [List.flatMap_cons]
    rw [this, List.count_append, refs, ← ih, ← aboveF_count x j]
    omega
theorem above_mem {l : List Nd} {parts : Int} (hf : Falls l parts) {a : Int} (ha : a ∈ aboveOf l) : 0 ≤ a ∧ a + 1 < l.length := by
  obtain ⟨x, hx, hm⟩ := List.mem_flatMap.1 ha
  obtain ⟨i, hi, e⟩ := List.getElem_of_mem hx
  have hb := hf i x (by rw [List.getElem?_eq_getElem hi, e])
  unfold aboveF at hm
  split at hm
  · simp at hm
  · rename_i h0
    unfold Nd.bad at hb
    rw [if_neg h0] at hb
    simp only [List.mem_cons, List.not_mem_nil, or_false] at hm
    rcases hm with rfl | rfl <;> omega
theorem iota_count (n j : Nat) : (iota 0 n).count (j : Int) = if j < n then 1 else 0 := by
  have h1 : iota 0 n = (List.range n).map fun t : Nat => (t : Int) := by unfold iota; simp
  rw [h1]
  induction n with
  | zero => simp
  | succ n ih =>
    rw [List.range_succ, List.map_append, List.count_append, ih (by unfold iota; simp)]
    simp only [List.map_cons, List.map_nil, List.count_cons, List.count_nil]
    by_cases h2 : n = j
    · subst h2; simp
    · have : ¬ ((n : Int) = (j : Int)) := by omega
      simp only [beq_iff_eq, this, if_false]
      split <;> split <;> omega
theorem iota_sorted (c : Int) (n : Nat) : (iota c n).Pairwise (fun a b => a ≤ b) := by
  unfold iota
  rw [List.pairwise_map]
  exact List.pairwise_lt_range.imp (by intro a b h; omega)
/-- Sorted, what is above each node is 0, 1, .. just if each but the last has one above it. -/
theorem above_iff {l : List Nd} {parts : Int} (hf : Falls l parts) (hl : 0 < l.length) {S : List Int} (hp : S.Perm (aboveOf l)) (hs : S.Pairwise (fun a b => a ≤ b)) :
    S = iota 0 (l.length - 1) ↔ ∀ i, i < l.length → refs l i = (if i + 1 < l.length then 1 else 0) := by
  constructor
  · intro h i hi
    rw [← above_count, ← hp.count_eq, h, iota_count]
    by_cases h1 : i + 1 < l.length
    · rw [if_pos h1, if_pos (by omega)]; rfl
    · rw [if_neg h1, if_neg (by omega)]; rfl
  · intro h
    have hq : S.Perm (iota 0 (l.length - 1)) := by
      rw [List.perm_iff_count]
      intro a
      rw [hp.count_eq]
      by_cases h0 : 0 ≤ a
      · obtain ⟨j, rfl⟩ : ∃ j : Nat, a = j := ⟨a.toNat, by omega⟩
        rw [iota_count]
        have e := above_count l j
        by_cases h1 : j < l.length
        · rw [h j h1] at e
          by_cases h2 : j + 1 < l.length
          · rw [if_pos h2] at e; rw [if_pos (by omega)]; omega
          · rw [if_neg h2] at e; rw [if_neg (by omega)]; omega
        · rw [if_neg (by omega), List.count_eq_zero]
          intro hm
          have := above_mem hf hm
          omega
      · rw [List.count_eq_zero.2 (fun hm => by have := above_mem hf hm; omega), List.count_eq_zero.2 (fun hm => ?_)]
        unfold iota at hm
        obtain ⟨t, _, ht⟩ := List.mem_map.1 hm
        omega
    exact hq.eq_of_pairwise (le := fun a b => a ≤ b) (fun a b _ _ h1 h2 => Int.le_antisymm h1 h2) hs (iota_sorted _ _)

/-- The leaves of a node, from left to right. -/
def leavesL (l : List Nd) (i : Nat) : List Int :=
  match l[i]? with
  | none => []
  | some x =>
    if 0 ≤ x.leaf then [x.leaf]
    else if h : x.left.toNat < i ∧ x.right.toNat < i then leavesL l x.left.toNat ++ leavesL l x.right.toNat
    else []
termination_by i
decreasing_by
  · exact h.1
  · exact h.2
theorem leavesL_leaf {l : List Nd} {i : Nat} {x : Nd} (h : l[i]? = some x) (h0 : 0 ≤ x.leaf) : leavesL l i = [x.leaf] := by
  rw [leavesL]; simp only [h]; rw [if_pos h0]
theorem leavesL_node {l : List Nd} {i a b : Nat} {x : Nd} (h : l[i]? = some x) (h0 : x.leaf < 0) (ha : x.left = a) (hb : x.right = b) (hai : a < i) (hbi : b < i) : leavesL l i = leavesL l a ++ leavesL l b := by
  rw [leavesL]; simp only [h]; rw [if_neg (by omega), ha, hb]
  rw [dif_pos ⟨by simpa using hai, by simpa using hbi⟩]
  simp
theorem leavesL_len {l : List Nd} {parts : Int} (hf : Falls l parts) : ∀ i, (leavesL l i).length ≤ 2 ^ i := by
  intro i
  induction i using Nat.strongRecOn with
  | _ i ih =>
    have hpos : 1 ≤ 2 ^ i := Nat.one_le_two_pow
    rcases hx : l[i]? with _ | x
    · rw [leavesL]; simp only [hx]; simp
    · by_cases h0 : 0 ≤ x.leaf
      · rw [leavesL_leaf hx h0]; simpa using hpos
      · have h1 := hf i x hx
        unfold Nd.bad at h1
        rw [if_neg h0] at h1
        obtain ⟨a, ha⟩ : ∃ a : Nat, x.left = a := ⟨x.left.toNat, by omega⟩
        obtain ⟨b, hb⟩ : ∃ b : Nat, x.right = b := ⟨x.right.toNat, by omega⟩
        rw [leavesL_node hx (by omega) ha hb (by omega) (by omega), List.length_append]
        have A := ih a (by omega)
        have B := ih b (by omega)
        have pa : 2 ^ a ≤ 2 ^ (i - 1) := Nat.pow_le_pow_right (by omega) (by omega)
        have pb : 2 ^ b ≤ 2 ^ (i - 1) := Nat.pow_le_pow_right (by omega) (by omega)
        have pi : 2 ^ i = 2 * 2 ^ (i - 1) := by
          have : i = (i - 1) + 1 := by omega
          conv => lhs; rw [this, Nat.pow_succ]
          omega
        omega
/-- The two ways of counting leaves agree. -/
theorem leaves_two {l : List Nd} {parts : Int} (hf : Falls l parts) : ∀ i, i < l.length → 0 < (leavesL l i).length ∧
    ((0 ≤ (leavesS l i).1 ∧ 1 ≤ (leavesS l i).2 ∧ leavesL l i = iota (leavesS l i).1 (leavesS l i).2.toNat) ∨ ((leavesS l i).1 < 0 ∧ ∀ c n, leavesL l i ≠ iota c n)) := by
  intro i
  induction i using Nat.strongRecOn with
  | _ i ih =>
    intro hi
    have hx : l[i]? = some l[i] := List.getElem?_eq_getElem hi
    by_cases h0 : 0 ≤ l[i].leaf
    · rw [leavesL_leaf hx h0, leavesS_leaf hx h0]
      exact ⟨by simp, .inl ⟨h0, by simp, by simp [iota]⟩⟩
    · have h1 := hf i _ hx
      unfold Nd.bad at h1
      rw [if_neg h0] at h1
      obtain ⟨a, ha⟩ : ∃ a : Nat, l[i].left = a := ⟨l[i].left.toNat, by omega⟩
      obtain ⟨b, hb⟩ : ∃ b : Nat, l[i].right = b := ⟨l[i].right.toNat, by omega⟩
      obtain ⟨pa, A⟩ := ih a (by omega) (by omega)
      obtain ⟨pb, B⟩ := ih b (by omega) (by omega)
      rw [leavesL_node hx (by omega) ha hb (by omega) (by omega), leavesS_node hx (by omega) ha hb (by omega) (by omega)]
      refine ⟨by rw [List.length_append]; omega, ?_⟩
      rcases A with ⟨a0, a1, a2⟩ | ⟨a0, a1⟩
      · rcases B with ⟨b0, b1, b2⟩ | ⟨b0, b1⟩
        · by_cases h2 : (leavesS l a).1 + (leavesS l a).2 = (leavesS l b).1
          · rw [if_neg (by omega)]
            refine .inl ⟨a0, by show 1 ≤ (leavesS l a).2 + (leavesS l b).2; omega, ?_⟩
            show leavesL l a ++ leavesL l b = iota (leavesS l a).1 ((leavesS l a).2 + (leavesS l b).2).toNat
            rw [a2, b2, ← h2, show ((leavesS l a).2 + (leavesS l b).2).toNat = (leavesS l a).2.toNat + (leavesS l b).2.toNat by omega, ← iota_append]
            congr 2
            omega
          · rw [if_pos (.inr (.inr h2))]
            refine .inr ⟨by show (-1 : Int) < 0; omega, fun c n he => ?_⟩
            obtain ⟨e1, e2⟩ := iota_split he
            rw [a2, iota_len] at e1 e2
            rw [b2, iota_len] at e2
            have i1 := iota_inj e1 (by omega)
            have i2 := iota_inj e2 (by omega)
            omega
        · rw [if_pos (.inr (.inl b0))]
          exact .inr ⟨by show (-1 : Int) < 0; omega, fun c n he => b1 _ _ (iota_split he).2⟩
      · rw [if_pos (.inl a0)]
        exact .inr ⟨by show (-1 : Int) < 0; omega, fun c n he => a1 _ _ (iota_split he).1⟩
theorem leaves_iff {l : List Nd} {parts : Int} (hf : Falls l parts) (hp : 1 ≤ parts) {i : Nat} (hi : i < l.length) : leavesL l i = iota 0 parts.toNat ↔ leavesS l i = (0, parts) := by
  obtain ⟨_, h | h⟩ := leaves_two hf i hi
  · obtain ⟨h0, h1, h2⟩ := h
    constructor
    · intro he
      rw [h2] at he
      have := iota_inj he (by omega)
      exact Prod.ext (by omega) (by omega)
    · intro he
      rw [h2, he]
  · constructor
    · exact fun he => absurd he (h.2 _ _)
    · intro he
      rw [he] at h
      exact absurd h.1 (by show ¬ (0 : Int) < 0; omega)
end Go.Proofs.YtokiekachlmigaaDoor
