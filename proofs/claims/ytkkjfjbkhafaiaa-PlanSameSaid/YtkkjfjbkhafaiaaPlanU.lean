/- A tree's plan is a plan. No program in sight. -/
import Derived.Test.YtkkjfjbkhafaiaaPlanT
namespace Go.Proofs.Ytkkjfjbkhafaiaa

theorem Tr.size_pos (t : Tr) : 1 ≤ t.size := by have := t.size_eq; have := t.leaves_pos; omega

/-- Every node of a tree's plan that stands at b + i is right. -/
theorem Tr.falls : ∀ (t : Tr) (b : Nat) (f parts : Int), 0 ≤ f → f + t.leaves ≤ parts → ∀ (i : Nat) (x : Nd), (t.flat b f)[i]? = some x → ¬ x.bad (b + i) parts
  | .one, b, f, parts, h0, h1, i, x, hx => by
    simp only [Tr.flat] at hx
    rcases i with _ | i
    · simp at hx; subst hx
      simp only [Tr.leaves] at h1
      exact Nd.good_leaf (by simpa using h0) (by show f < parts; omega) rfl rfl
    · simp at hx
  | .two u v, b, f, parts, h0, h1, i, x, hx => by
    have lu := u.flat_len b f
    have lv := v.flat_len (b + u.size) (f + u.leaves)
    have pu := u.size_pos
    have pv := v.size_pos
    simp only [Tr.leaves] at h1
    simp only [Tr.flat] at hx
    rcases Nat.lt_or_ge i (u.size + v.size) with hi | hi
    · rw [List.getElem?_append_left (by rw [List.length_append, lu, lv]; exact hi)] at hx
      rcases Nat.lt_or_ge i u.size with hi2 | hi2
      · rw [List.getElem?_append_left (by rw [lu]; exact hi2)] at hx
        exact u.falls b f parts h0 (by omega) i x hx
      · rw [List.getElem?_append_right (by rw [lu]; exact hi2), lu] at hx
        have := v.falls (b + u.size) (f + u.leaves) parts (by omega) (by omega) _ x hx
        rwa [show b + u.size + (i - u.size) = b + i by omega] at this
    · rw [List.getElem?_append_right (by rw [List.length_append, lu, lv]; exact hi), List.length_append, lu, lv] at hx
      rcases hj : i - (u.size + v.size) with _ | j
      · rw [hj] at hx
        simp at hx; subst hx
        refine Nd.good_node rfl ?_ ?_ ?_ ?_ <;> dsimp only <;> omega
      · rw [hj] at hx; simp at hx

/-- How often each node is below another one, in a tree's plan: once, but the last one. -/
theorem Tr.refs : ∀ (t : Tr) (b : Nat) (f : Int) (j : Nat), 0 ≤ f → Go.Proofs.Ytkkjfjbkhafaiaa.refs (t.flat b f) j = if b ≤ j ∧ j + 1 < b + t.size then 1 else 0
  | .one, b, f, j, h0 => by
    rw [if_neg (by simp only [Tr.size]; omega)]
    simp only [Tr.flat, Go.Proofs.Ytkkjfjbkhafaiaa.refs, Nd.cnt]
    rw [if_pos h0]; rfl
  | .two u v, b, f, j, h0 => by
    have pu := u.size_pos
    have pv := v.size_pos
    have hu := u.refs b f j h0
    have hv := v.refs (b + u.size) (f + u.leaves) j (by omega)
    have hx : (⟨-1, ((b + u.size : Nat) : Int) - 1, ((b + u.size + v.size : Nat) : Int) - 1⟩ : Nd).cnt j = (if ((b + u.size : Nat) : Int) - 1 = j then 1 else 0) + (if ((b + u.size + v.size : Nat) : Int) - 1 = j then 1 else 0) := by
      unfold Nd.cnt; rw [if_neg (by dsimp only; omega)]
    have hs : Go.Proofs.Ytkkjfjbkhafaiaa.refs ((Tr.two u v).flat b f) j = Go.Proofs.Ytkkjfjbkhafaiaa.refs (u.flat b f) j + Go.Proofs.Ytkkjfjbkhafaiaa.refs (v.flat (b + u.size) (f + u.leaves)) j + ((⟨-1, ((b + u.size : Nat) : Int) - 1, ((b + u.size + v.size : Nat) : Int) - 1⟩ : Nd).cnt j + 0) := by
      simp only [Tr.flat, refs_append, Go.Proofs.Ytkkjfjbkhafaiaa.refs]
    rw [hs, hu, hv, hx]
    have hsz : (Tr.two u v).size = u.size + v.size + 1 := rfl
    by_cases c5 : b ≤ j ∧ j + 1 < b + (Tr.two u v).size
    · rw [if_pos c5]
      rw [hsz] at c5
      repeat' split
      all_goals omega
    · rw [if_neg c5]
      rw [hsz] at c5
      repeat' split
      all_goals omega

/-- A node's leaves. -/
theorem Tr.leavesS : ∀ (t : Tr) (pre post : List Nd) (f : Int), 0 ≤ f → Go.Proofs.Ytkkjfjbkhafaiaa.leavesS (pre ++ t.flat pre.length f ++ post) (pre.length + t.size - 1) = (f, (t.leaves : Int))
  | .one, pre, post, f, h0 => by
    have := leavesS_leaf (l := pre ++ Tr.one.flat pre.length f ++ post) (i := pre.length + Tr.one.size - 1) (x := ⟨f, 0, 0⟩) (by simp [Tr.flat, Tr.size]) h0
    rw [this]; rfl
  | .two u v, pre, post, f, h0 => by
    have lu := u.flat_len pre.length f
    have lv := v.flat_len (pre.length + u.size) (f + u.leaves)
    have pu := u.size_pos
    have pv := v.size_pos
    have hpu : (pre ++ u.flat pre.length f).length = pre.length + u.size := by rw [List.length_append, lu]
    obtain ⟨X, hX⟩ : ∃ X : Nd, (⟨-1, ((pre.length + u.size : Nat) : Int) - 1, ((pre.length + u.size + v.size : Nat) : Int) - 1⟩ : Nd) = X := ⟨_, rfl⟩
    have hl : pre ++ (Tr.two u v).flat pre.length f ++ post = (pre ++ u.flat pre.length f ++ v.flat (pre.length + u.size) (f + u.leaves)) ++ (X :: post) := by
      simp only [Tr.flat, hX]; simp
    have A := u.leavesS pre (v.flat (pre.length + u.size) (f + u.leaves) ++ (X :: post)) f h0
    have B := v.leavesS (pre ++ u.flat pre.length f) (X :: post) (f + u.leaves) (by omega)
    rw [hpu] at B
    rw [← List.append_assoc] at A
    rw [hl]
    have hx : ((pre ++ u.flat pre.length f ++ v.flat (pre.length + u.size) (f + u.leaves)) ++ (X :: post))[pre.length + (Tr.two u v).size - 1]? = some X := by
      rw [List.getElem?_append_right (by rw [List.length_append, hpu, lv]; simp only [Tr.size]; omega)]
      rw [List.length_append, hpu, lv]
      simp only [Tr.size]
      rw [show pre.length + (u.size + v.size + 1) - 1 - (pre.length + u.size + v.size) = 0 by omega]
      rfl
    rw [leavesS_node (a := pre.length + u.size - 1) (b := pre.length + u.size + v.size - 1) hx (by rw [← hX]; show (-1 : Int) < 0; omega) (by rw [← hX]; dsimp only; omega) (by rw [← hX]; dsimp only; omega) (by simp only [Tr.size]; omega) (by simp only [Tr.size]; omega)]
    rw [A, B]
    simp only [Tr.leaves]
    rw [if_neg (by omega)]
    simp

theorem Tr.plan (t : Tr) (h : t.leaves ≤ 12) : ckPlan (t.flat 0 0) t.leaves = 0 := by
  have p1 := t.leaves_pos
  have p2 := t.size_eq
  have pl := t.flat_len 0 0
  refine ckPlan_ok (by omega) (by omega) (by omega) (fun i x hx => ?_) (fun i hi => ?_) ?_
  · have := t.falls 0 0 t.leaves (by omega) (by omega) i x hx
    rwa [Nat.zero_add] at this
  · rw [t.refs 0 0 i (by omega), pl]
    simp
  · have := t.leavesS [] [] 0 (by omega)
    simp only [List.nil_append, List.append_nil, List.length_nil, Nat.zero_add] at this
    rw [pl]
    exact this

/-- For more parts it is none. -/
theorem Tr.plan_more (t : Tr) (h : t.leaves ≤ 12) : ckPlan (t.flat 0 0) ((t.leaves : Int) + 1) ≠ 0 := by
  intro h0
  have hz := (ckPlan_zero h0).2.2.2.2.2.2
  have hz' := (ckPlan_zero (t.plan h)).2.2.2.2.2.2
  rw [hz'] at hz
  have := congrArg Prod.snd hz
  simp at this
  omega

/-- Without its last node it is none. -/
theorem Tr.plan_less (t : Tr) (h : t.leaves ≤ 12) : ckPlan ((t.flat 0 0).take ((t.flat 0 0).length - 1)) t.leaves ≠ 0 := by
  intro h0
  have pl := t.flat_len 0 0
  have hz := ckPlan_zero h0
  obtain ⟨_, _, _, hne, _, hr, hlv⟩ := hz
  rcases t with _ | ⟨u, v⟩
  · simp [Tr.flat] at hne
  · have pu := u.size_pos
    have pv := v.size_pos
    have lu := u.flat_len 0 0
    have lv := v.flat_len (0 + u.size) (0 + u.leaves)
    have e : ((Tr.two u v).flat 0 0).take (((Tr.two u v).flat 0 0).length - 1) = u.flat 0 0 ++ v.flat (0 + u.size) (0 + u.leaves) := by
      simp only [Tr.flat]
      rw [List.take_append_of_le_length (by simp), List.take_of_length_le (by simp)]
    rw [e] at hr
    have := hr (u.size - 1) (by rw [List.length_append, lu, lv]; omega)
    rw [refs_append, u.refs 0 0 _ (by omega), v.refs _ _ _ (by omega), List.length_append, lu, lv, if_neg (by omega), if_neg (by omega), if_pos (by omega)] at this
    omega
end Go.Proofs.Ytkkjfjbkhafaiaa
