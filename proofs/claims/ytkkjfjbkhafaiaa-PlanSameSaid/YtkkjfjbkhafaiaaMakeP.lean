/- What plan.Make makes, as a plan. No program in sight. -/
import Derived.Test.YtkkjfjbkhafaiaaPlanK
import Derived.Test.YtkkjfjbkhafaiaaPlanU
namespace Go.Proofs.Ytkkjfjbkhafaiaa
open Go.RowKit

theorem make_form {parts : Int} {picks : List Int} {l : List Nd} (h : makeRes parts picks = (l, 0)) :
    1 ≤ parts ∧ parts ≤ 12 ∧ picks.length ≤ 23 ∧ ∃ t : Tr, t = growT (fun j => picks.getD j 0) parts.toNat 0 ∧ (t.leaves : Int) = parts ∧ l = t.flat 0 0 := by
  by_cases hr : parts < 1 ∨ 12 < parts
  · rw [makeRes_range hr] at h; cases h
  · by_cases h1 : 23 < picks.length
    · rw [makeRes_many hr h1] at h; cases h
    · rw [makeRes_ok hr h1] at h
      cases h
      exact ⟨by omega, by omega, by omega, _, rfl, by rw [growT_leaves _ _ _ (by omega)]; omega, rfl⟩
theorem make_plan {parts : Int} {picks : List Int} {l : List Nd} (h : makeRes parts picks = (l, 0)) : ckPlan l parts = 0 := by
  obtain ⟨h0, h1, _, t, _, e, rfl⟩ := make_form h
  rw [← e]; exact t.plan (by omega)
theorem make_more {parts : Int} {picks : List Int} {l : List Nd} (h : makeRes parts picks = (l, 0)) : ckPlan l (parts + 1) ≠ 0 := by
  obtain ⟨h0, h1, _, t, _, e, rfl⟩ := make_form h
  rw [← e]; exact t.plan_more (by omega)
theorem make_less {parts : Int} {picks : List Int} {l : List Nd} (h : makeRes parts picks = (l, 0)) : ckPlan (l.take (l.length - 1)) parts ≠ 0 := by
  obtain ⟨h0, h1, _, t, _, e, rfl⟩ := make_form h
  rw [← e]; exact t.plan_less (by omega)
theorem make_len {parts : Int} {picks : List Int} {l : List Nd} (h : makeRes parts picks = (l, 0)) : (l.length : Int) = 2 * parts - 1 := by
  obtain ⟨h0, h1, _, t, _, e, rfl⟩ := make_form h
  rw [t.flat_len]; have := t.size_eq; omega
/-- Picks beyond those that are wanted change nothing. -/
theorem make_same {parts : Int} {picks more : List Int} {l : List Nd} (h : makeRes parts picks = (l, 0)) (hp : parts - 1 ≤ picks.length) (hm : (picks.take (parts - 1).toNat ++ more).length ≤ 23) :
    makeRes parts (picks.take (parts - 1).toNat ++ more) = (l, 0) := by
  obtain ⟨h0, h1, _, t, ht, e, rfl⟩ := make_form h
  rw [makeRes_ok (by omega) (by omega), ht]
  congr 2
  refine growT_same _ _ _ _ (by omega) fun j _ hj => ?_
  rw [List.getD_eq_getElem?_getD, List.getD_eq_getElem?_getD, List.getElem?_append_left (by rw [List.length_take]; omega), List.getElem?_take_of_lt (by omega)]
end Go.Proofs.Ytkkjfjbkhafaiaa
