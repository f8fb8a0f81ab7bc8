/- What comes of a plan: the parts joined, whatever the plan. No program in sight. -/
import Derived.Test.YtkkjfjbkhafaiaaPartK
import Derived.Test.YtkkjfjbkhafaiaaPlanU
namespace Go.Proofs.Ytkkjfjbkhafaiaa

/-- What each node is, from the k-th on, where those ahead of it are 'out'. -/
def evalUp (parts : List Prt) : List Prt → List Nd → List Prt × Int
  | out, [] => (out, 0)
  | out, x :: r =>
    if 0 ≤ x.leaf then evalUp parts (out ++ [parts.getD x.leaf.toNat .nil]) r
    else if (joinP (out.getD x.left.toNat .nil) (out.getD x.right.toNat .nil)).2 ≠ 0 then ([], (joinP (out.getD x.left.toNat .nil) (out.getD x.right.toNat .nil)).2)
    else evalUp parts (out ++ [(joinP (out.getD x.left.toNat .nil) (out.getD x.right.toNat .nil)).1]) r
theorem evalUp_leaf {parts out : List Prt} {x : Nd} {r : List Nd} (h : 0 ≤ x.leaf) : evalUp parts out (x :: r) = evalUp parts (out ++ [parts.getD x.leaf.toNat .nil]) r := by rw [evalUp, if_pos h]
theorem evalUp_bad {parts out : List Prt} {x : Nd} {r : List Nd} (h : ¬ 0 ≤ x.leaf) (hj : (joinP (out.getD x.left.toNat .nil) (out.getD x.right.toNat .nil)).2 ≠ 0) :
    evalUp parts out (x :: r) = ([], (joinP (out.getD x.left.toNat .nil) (out.getD x.right.toNat .nil)).2) := by rw [evalUp, if_neg h, if_pos hj]
theorem evalUp_ok {parts out : List Prt} {x : Nd} {r : List Nd} (h : ¬ 0 ≤ x.leaf) (hj : (joinP (out.getD x.left.toNat .nil) (out.getD x.right.toNat .nil)).2 = 0) :
    evalUp parts out (x :: r) = evalUp parts (out ++ [(joinP (out.getD x.left.toNat .nil) (out.getD x.right.toNat .nil)).1]) r := by rw [evalUp, if_neg h, if_neg (fun hn => hn hj)]
noncomputable def evalRes (l : List Nd) (parts : List Prt) : List Prt × Int :=
  if ckPlan l parts.length ≠ 0 then ([], ckPlan l parts.length) else if firstBad (parts.map ckPart) ≠ 0 then ([], firstBad (parts.map ckPart)) else evalUp parts [] l
theorem evalRes_plan {l : List Nd} {parts : List Prt} (h : ckPlan l parts.length ≠ 0) : evalRes l parts = ([], ckPlan l parts.length) := if_pos h
theorem evalRes_part {l : List Nd} {parts : List Prt} (h : ckPlan l parts.length = 0) (h1 : firstBad (parts.map ckPart) ≠ 0) : evalRes l parts = ([], firstBad (parts.map ckPart)) := by
  unfold evalRes; rw [if_neg (by simp [h]), if_pos h1]
theorem evalRes_go {l : List Nd} {parts : List Prt} (h : ckPlan l parts.length = 0) (h1 : firstBad (parts.map ckPart) = 0) : evalRes l parts = evalUp parts [] l := by
  unfold evalRes; rw [if_neg (by simp [h]), if_neg (by simp [h1])]

/-- All joined, however great. -/
def joinL (l : List Prt) : Prt := l.foldl joinU .nil
theorem joinL_snoc (l : List Prt) (a : Prt) : joinL (l ++ [a]) = joinU (joinL l) a := by unfold joinL; rw [List.foldl_append]; rfl
theorem joinL_right {l : List Prt} (h : ∀ a ∈ l, a.Right) : (joinL l).Right := by
  have : ∀ (l : List Prt) (b : Prt), b.Right → (∀ a ∈ l, a.Right) → (l.foldl joinU b).Right := by
    intro l
    induction l with
    | nil => exact fun b hb _ => hb
    | cons a l ih => exact fun b hb hl => ih _ (right_join hb (hl a (by simp))) fun x hx => hl x (by simp [hx])
  exact this l .nil right_nil h
theorem foldl_join : ∀ (m : List Prt) (c : Prt), (∀ a ∈ m, a.Right) → m.foldl joinU c = joinU c (joinL m)
  | [], c, _ => (join_nil c).symm
  | a :: r, c, h => by
    have ha := h a (by simp)
    have hr : ∀ x ∈ r, x.Right := fun x hx => h x (by simp [hx])
    have e : joinL (a :: r) = joinU a (joinL r) := by
      show r.foldl joinU (joinU .nil a) = _
      rw [nil_join ha, foldl_join r a hr]
    rw [e, List.foldl_cons, foldl_join r _ hr, join_assoc ha (joinL_right hr)]
theorem joinL_append {l m : List Prt} (hm : ∀ a ∈ m, a.Right) : joinL (l ++ m) = joinU (joinL l) (joinL m) := by
  have : joinL (l ++ m) = m.foldl joinU (joinL l) := List.foldl_append ..
  rw [this, foldl_join m _ hm]
theorem joinL_one {a : Prt} (h : a.Right) : joinL [a] = a := nil_join h
theorem joinU_ge (a b : Prt) : a.frs.length ≤ (joinU a b).frs.length ∧ a.dfs.length ≤ (joinU a b).dfs.length := by
  unfold joinU; simp
theorem fits_left {a b : Prt} (h : (joinU a b).fits) : a.fits := by
  have := joinU_ge a b
  have h1 := h.1
  have h2 := h.2
  exact ⟨by omega, by omega⟩

/-- All of right parts: joined, or too many; too many only if all of them are. -/
theorem all_from {a : Prt} {l : List Prt} (ha : a.Ok) (hl : ∀ x ∈ l, x.Ok) : (allFrom a l = (l.foldl joinU a, 0) ∧ (l.foldl joinU a).Ok) ∨ (allFrom a l = (.nil, 10) ∧ ¬ (l.foldl joinU a).fits) := by
  induction l generalizing a with
  | nil => exact .inl ⟨rfl, ha⟩
  | cons b l ih =>
    have hb := hl b (by simp)
    by_cases hf : (joinU a b).fits
    · have hj := joinP_ok ha hb hf
      rcases ih (ok_join ha hb hf) (fun x hx => hl x (by simp [hx])) with ⟨h1, h2⟩ | ⟨h1, h2⟩
      · refine .inl ⟨?_, h2⟩
        rw [allFrom, hj, if_neg (by simp)]; exact h1
      · refine .inr ⟨?_, h2⟩
        rw [allFrom, hj, if_neg (by simp)]; exact h1
    · have hj := joinP_full ha hb hf
      refine .inr ⟨by rw [allFrom, hj, if_pos (by simp)], fun hn => hf ?_⟩
      have : ∀ (l : List Prt) (c : Prt), (l.foldl joinU c).fits → c.fits := by
        intro l
        induction l with
        | nil => exact fun c h => h
        | cons d l ih => exact fun c h => fits_left (ih _ h)
      exact this l _ hn
theorem all_right {l : List Prt} (h : ¬ 96 < l.length) (hl : ∀ x ∈ l, x.Ok) : (allP l = (joinL l, 0) ∧ (joinL l).fits) ∨ (allP l = (.nil, 10) ∧ ¬ (joinL l).fits) := by
  have e : allP l = allFrom .nil l := if_neg h
  rw [e]
  rcases all_from ok_nil hl with ⟨h1, h2⟩ | ⟨h1, h2⟩
  · exact .inl ⟨h1, h2.n1, h2.n2⟩
  · exact .inr ⟨h1, h2⟩
theorem allFrom_zero {a : Prt} {l : List Prt} (h : (allFrom a l).2 = 0) : ∀ x ∈ l, x.Ok := by
  induction l generalizing a with
  | nil => intro x hx; cases hx
  | cons b l ih =>
    rw [allFrom] at h
    split at h
    · rename_i h1; exact absurd h h1
    · rename_i h1
      intro x hx
      rcases List.mem_cons.1 hx with rfl | hx
      · exact (joinP_zero (Decidable.not_not.1 h1)).2.1
      · exact ih h x hx

/-- A tree's plan evaluated: so many more, the last of them the tree's parts joined; or too many. -/
theorem eval_tree {parts : List Prt} (hp : ∀ x ∈ parts, x.Ok) : ∀ (t : Tr) (b f : Nat) (out : List Prt) (r : List Nd), out.length = b → f + t.leaves ≤ parts.length →
    (∃ vs : List Prt, evalUp parts out (t.flat b f ++ r) = evalUp parts (out ++ vs) r ∧ vs.length = t.size ∧ vs[t.size - 1]? = some (joinL ((parts.drop f).take t.leaves)) ∧ (joinL ((parts.drop f).take t.leaves)).Ok) ∨
      evalUp parts out (t.flat b f ++ r) = ([], 10)
  | .one, b, f, out, r, hb, hf => by
    simp only [Tr.leaves] at hf
    have hlt : f < parts.length := by omega
    have hx : parts[f] ∈ parts := List.getElem_mem hlt
    have e1 : (parts.drop f).take 1 = [parts[f]] := by rw [List.drop_eq_getElem_cons hlt]; rfl
    refine .inl ⟨[parts[f]], ?_, rfl, ?_, ?_⟩
    · show evalUp parts out (⟨(f : Int), 0, 0⟩ :: r) = _
      rw [evalUp_leaf (by show (0 : Int) ≤ f; omega)]
      show evalUp parts (out ++ [parts.getD (f : Int).toNat .nil]) r = _
      rw [Int.toNat_natCast, List.getD_eq_getElem?_getD, List.getElem?_eq_getElem hlt]; rfl
    · show some parts[f] = some (joinL ((parts.drop f).take 1))
      rw [e1, joinL_one (hp _ hx).right]
    · show (joinL ((parts.drop f).take 1)).Ok
      rw [e1, joinL_one (hp _ hx).right]
      exact hp _ hx
  | .two u v, b, f, out, r, hb, hf => by
    simp only [Tr.leaves] at hf
    have pu := u.size_pos
    have pv := v.size_pos
    have hflat : (Tr.two u v).flat b f ++ r = u.flat b f ++ (v.flat (b + u.size) ((f + u.leaves : Nat) : Int) ++ (⟨-1, ((b + u.size : Nat) : Int) - 1, ((b + u.size + v.size : Nat) : Int) - 1⟩ :: r)) := by
      simp only [Tr.flat, List.append_assoc, List.singleton_append]
      congr 3
    rw [hflat]
    rcases eval_tree hp u b f out (v.flat (b + u.size) ((f + u.leaves : Nat) : Int) ++ (⟨-1, ((b + u.size : Nat) : Int) - 1, ((b + u.size + v.size : Nat) : Int) - 1⟩ :: r)) hb (by omega) with ⟨us, hu, lu, gu, ou⟩ | hu
    · rw [hu]
      rcases eval_tree hp v (b + u.size) (f + u.leaves) (out ++ us) (⟨-1, ((b + u.size : Nat) : Int) - 1, ((b + u.size + v.size : Nat) : Int) - 1⟩ :: r) (by rw [List.length_append, hb, lu]) (by omega) with ⟨vs, hv, lv, gv, ov⟩ | hv
      · rw [hv]
        have g1 : ((out ++ us) ++ vs).getD (((b + u.size : Nat) : Int) - 1).toNat .nil = joinL ((parts.drop f).take u.leaves) := by
          rw [show (((b + u.size : Nat) : Int) - 1).toNat = b + (u.size - 1) by omega, List.getD_eq_getElem?_getD, List.getElem?_append_left (by rw [List.length_append, hb, lu]; omega), List.getElem?_append_right (by omega),
            show b + (u.size - 1) - out.length = u.size - 1 by omega, gu]; rfl
        have g2 : ((out ++ us) ++ vs).getD (((b + u.size + v.size : Nat) : Int) - 1).toNat .nil = joinL ((parts.drop (f + u.leaves)).take v.leaves) := by
          rw [show (((b + u.size + v.size : Nat) : Int) - 1).toNat = (b + u.size) + (v.size - 1) by omega, List.getD_eq_getElem?_getD, List.getElem?_append_right (by rw [List.length_append, hb, lu]; omega), List.length_append, hb, lu,
            show b + u.size + (v.size - 1) - (b + u.size) = v.size - 1 by omega, gv]; rfl
        have hsum : joinL ((parts.drop f).take (Tr.two u v).leaves) = joinU (joinL ((parts.drop f).take u.leaves)) (joinL ((parts.drop (f + u.leaves)).take v.leaves)) := by
          show joinL ((parts.drop f).take (u.leaves + v.leaves)) = _
          rw [List.take_add, List.drop_drop, joinL_append fun x hx => (hp x (List.mem_of_mem_drop (List.mem_of_mem_take hx))).right]
        have hne : ¬ (0 : Int) ≤ (⟨-1, ((b + u.size : Nat) : Int) - 1, ((b + u.size + v.size : Nat) : Int) - 1⟩ : Nd).leaf := by show ¬ (0 : Int) ≤ -1; omega
        by_cases hfit : (joinU (joinL ((parts.drop f).take u.leaves)) (joinL ((parts.drop (f + u.leaves)).take v.leaves))).fits
        · have hj := joinP_ok ou ov hfit
          refine .inl ⟨us ++ vs ++ [joinL ((parts.drop f).take (Tr.two u v).leaves)], ?_, ?_, ?_, ?_⟩
          · rw [evalUp_ok hne (by show (joinP (((out ++ us) ++ vs).getD (((b + u.size : Nat) : Int) - 1).toNat .nil) (((out ++ us) ++ vs).getD (((b + u.size + v.size : Nat) : Int) - 1).toNat .nil)).2 = 0; rw [g1, g2, hj])]
            show evalUp parts (((out ++ us) ++ vs) ++ [(joinP (((out ++ us) ++ vs).getD (((b + u.size : Nat) : Int) - 1).toNat .nil) (((out ++ us) ++ vs).getD (((b + u.size + v.size : Nat) : Int) - 1).toNat .nil)).1]) r = _
            rw [g1, g2, hj, hsum]
            simp only [List.append_assoc]
          · simp only [List.length_append, lu, lv, List.length_singleton]; rfl
          · have : (Tr.two u v).size - 1 = (us ++ vs).length := by rw [List.length_append, lu, lv]; rfl
            rw [this, List.getElem?_append_right (Nat.le_refl _), Nat.sub_self]; rfl
          · rw [hsum]; exact ok_join ou ov hfit
        · have hj := joinP_full ou ov hfit
          refine .inr ?_
          rw [evalUp_bad hne (by show (joinP (((out ++ us) ++ vs).getD (((b + u.size : Nat) : Int) - 1).toNat .nil) (((out ++ us) ++ vs).getD (((b + u.size + v.size : Nat) : Int) - 1).toNat .nil)).2 ≠ 0; rw [g1, g2, hj]; simp)]
          show ([], (joinP (((out ++ us) ++ vs).getD (((b + u.size : Nat) : Int) - 1).toNat .nil) (((out ++ us) ++ vs).getD (((b + u.size + v.size : Nat) : Int) - 1).toNat .nil)).2) = _
          rw [g1, g2, hj]
      · exact .inr hv
    · exact .inr hu

theorem firstBad_parts {parts : List Prt} : firstBad (parts.map ckPart) = 0 ↔ ∀ x ∈ parts, x.Ok := by
  rw [firstBad_zero]
  constructor
  · intro h x hx
    exact (ok_iff x).1 (h _ (List.mem_map_of_mem hx))
  · intro h e he
    obtain ⟨x, hx, rfl⟩ := List.mem_map.1 he
    exact (ok_iff x).2 (h x hx)
/-- What a tree's plan comes to. -/
theorem eval_plan {parts : List Prt} {t : Tr} (hl : t.leaves = parts.length) (h12 : parts.length ≤ 12) :
    ((evalRes (t.flat 0 0) parts).2 ≠ 0 ∧ (allP parts).2 ≠ 0) ∨
      (∃ vs, evalRes (t.flat 0 0) parts = (vs, 0) ∧ vs.length = t.size ∧ vs[t.size - 1]? = some (joinL parts) ∧ allP parts = (joinL parts, 0)) ∨
      (evalRes (t.flat 0 0) parts = ([], 10)) := by
  have hc : ckPlan (t.flat 0 0) parts.length = 0 := by rw [← hl]; exact t.plan (by omega)
  by_cases hb : firstBad (parts.map ckPart) = 0
  · have hp := firstBad_parts.1 hb
    rw [evalRes_go hc hb]
    rcases eval_tree hp t 0 0 [] [] rfl (by omega) with ⟨vs, h1, h2, h3, h4⟩ | h1
    · have e : (parts.drop 0).take t.leaves = parts := by rw [hl]; simp
      rw [e] at h3 h4
      rw [List.append_nil] at h1
      refine .inr (.inl ⟨vs, ?_, h2, h3, ?_⟩)
      · exact h1.trans rfl
      · rcases all_right (by omega) hp with ⟨h5, _⟩ | ⟨_, h6⟩
        · exact h5
        · exact absurd ⟨h4.n1, h4.n2⟩ h6
    · rw [List.append_nil] at h1
      exact .inr (.inr h1)
  · refine .inl ⟨?_, fun h => hb ?_⟩
    · rw [evalRes_part hc hb]; exact hb
    · rw [firstBad_parts]
      have e : allP parts = allFrom .nil parts := if_neg (by omega)
      rw [e] at h
      exact allFrom_zero h
end Go.Proofs.Ytkkjfjbkhafaiaa
