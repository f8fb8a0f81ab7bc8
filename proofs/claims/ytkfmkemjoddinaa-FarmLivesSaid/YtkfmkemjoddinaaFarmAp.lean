/- What one worker comes to with two parts: a closed fact. No program in sight. -/
import Derived.Test.YtkfmkemjoddinaaFmC
import Derived.Test.YtkfmkemjoddinaaTwoW
import Derived.Test.YtkfmkemjoddinaaPlK
set_option linter.all false
namespace Go.Proofs.Ytkfmkemjoddinaa

def planL : List Nd := [⟨0, 0, 0⟩, ⟨1, 0, 0⟩, ⟨-1, 0, 1⟩]
theorem make_two : makeRes 2 [] = (planL, 0) := by
  have h : ∃ l, makeRes 2 [] = (l, 0) := ⟨_, makeRes_ok (parts := 2) (picks := []) (by omega) (by simp)⟩
  obtain ⟨l, h⟩ := h
  obtain ⟨_, _, _, t, _, ht, e⟩ := make_form h
  rw [h, e]
  cases t with
  | one => simp [Tr.leaves] at ht
  | two a b =>
    have pa := a.leaves_pos
    have pb := b.leaves_pos
    simp only [Tr.leaves] at ht
    cases a with
    | two x y => have := x.leaves_pos; have := y.leaves_pos; simp only [Tr.leaves] at ht pa; omega
    | one =>
      cases b with
      | two x y => have := x.leaves_pos; have := y.leaves_pos; simp only [Tr.leaves] at ht pb; omega
      | one => rfl
theorem fm_join : (joinP twoA twoB).2 = 0 := by kernel_rfl
theorem fm_ok : ∀ x ∈ [twoA, twoB], x.Ok := by
  obtain ⟨ha, hb, _, _⟩ := joinP_zero fm_join
  intro x hx
  simp only [List.mem_cons, List.not_mem_nil, or_false] at hx
  rcases hx with rfl | rfl
  · exact ha
  · exact hb
theorem fm_plan : ckPlan planL ([twoA, twoB].length : Nat) = 0 := make_plan make_two
theorem fm_eval : (evalRes planL [twoA, twoB]).2 = 0 := by
  rw [evalRes_go fm_plan (firstBad_parts.2 fm_ok)]
  kernel_rfl
theorem ready_none {l : List Nd} {done : List Bool} (h : ∀ i, i < done.length → done[i]? = some true) : ∀ k, readyUpto l done k = []
  | 0 => rfl
  | k + 1 => by
    have hk : readyAt l done k = false := by
      by_cases hlt : k < done.length
      · exact readyAt_done (h k hlt)
      · unfold readyAt
        have hd : done[k]? = none := List.getElem?_eq_none (by omega)
        rw [hd]
        cases l[k]? <;> rfl
    rw [readyUpto, hk, ready_none h k]; rfl
def roundH : List Hap := [⟨1, 0, 0⟩, ⟨3, 0, 0⟩, ⟨2, 0, 0⟩, ⟨3, 0, 0⟩]
theorem run_round {f : Frm} {r : List Hap} (h : f.Calm) (hv : (evalRes f.pl f.ps).2 = 0) {i : Nat} (hi : f.dn[i]? = some false) :
    ∃ g : Frm, runFrom f (roundH ++ r) = ((runFrom g r).1, 0 :: 0 :: 0 :: 0 :: (runFrom g r).2) ∧ g.Calm ∧ g.dn.count true = f.dn.count true + 1 ∧ g.ps = f.ps ∧ g.pl = f.pl := by
  obtain ⟨f1, f2, f3, f4, s1, s2, s3, s4, hC, hc, hp, hl, _⟩ := round_ok h hv hi (w := 0) (Int.le_refl _) (by have := h.fine.w1; omega)
  refine ⟨f4, ?_, hC, hc, hp, hl⟩
  have s1' : stepP f ⟨1, 0, 0⟩ = (f1, 0) := s1
  have s2' : stepP f1 ⟨3, 0, 0⟩ = (f2, 0) := s2
  have s3' : stepP f2 ⟨2, 0, 0⟩ = (f3, 0) := s3
  have s4' : stepP f3 ⟨3, 0, 0⟩ = (f4, 0) := s4
  simp only [roundH, List.cons_append, List.nil_append, runFrom, s1', s2', s3', s4', if_true]
theorem not_all {f : Frm} (h : f.Calm) {n : Nat} (hc : f.dn.count true = n) (hn : n < f.pl.length) : ∃ i : Nat, f.dn[i]? = some false := count_some (by rw [hc, h.fine.ld]; exact hn)
theorem farmed_fact : ∃ F S, runFrom (newF [twoA, twoB] planL 1) (roundH ++ (roundH ++ (roundH ++ [⟨1, 0, 0⟩]))) = (F, S) ∧ S.length = 13 ∧ S[11]? = some 0 ∧ S[12]? = some 11 ∧ F.Fine ∧ outP F = ((joinP twoA twoB).1, 0) := by
  have c0 : (newF [twoA, twoB] planL 1).Calm := new_calm fm_plan (by omega) (by omega) fm_ok
  obtain ⟨i0, h0⟩ := not_all c0 (new_count _ _ _) (by show 0 < 3; omega)
  obtain ⟨g1, r1, c1, n1, p1, l1⟩ := run_round (r := roundH ++ (roundH ++ [⟨1, 0, 0⟩])) c0 fm_eval h0
  rw [new_count] at n1
  have l1' : g1.pl = planL := l1
  have p1' : g1.ps = [twoA, twoB] := p1
  obtain ⟨i1, h1⟩ := not_all c1 n1 (by rw [l1']; show 0 + 1 < 3; omega)
  obtain ⟨g2, r2, c2, n2, p2, l2⟩ := run_round (r := roundH ++ [⟨1, 0, 0⟩]) c1 (by rw [l1', p1']; exact fm_eval) h1
  rw [n1] at n2
  rw [l1'] at l2
  rw [p1'] at p2
  obtain ⟨i2, h2⟩ := not_all c2 n2 (by rw [l2]; show 0 + 1 + 1 < 3; omega)
  obtain ⟨g3, r3, c3, n3, p3, l3⟩ := run_round (r := [⟨1, 0, 0⟩]) c2 (by rw [l2, p2]; exact fm_eval) h2
  rw [n2] at n3
  rw [l2] at l3
  rw [p2] at p3
  have hld : g3.dn.length = 3 := by rw [c3.fine.ld, l3]; rfl
  have hall : ∀ i, i < g3.dn.length → g3.dn[i]? = some true := fun i hi => by
    have := count_all (d := g3.dn) (by rw [n3, hld]) hi
    rw [List.getD_eq_getElem?_getD, List.getElem?_eq_getElem hi] at this
    rw [List.getElem?_eq_getElem hi]
    exact congrArg some this
  have hg : stepP g3 ⟨1, 0, 0⟩ = (g3, 11) := by
    have ho := off_who (f := g3) (k := 1) (w := 0) (.inl rfl) (Int.le_refl _) (by have := c3.fine.w1; omega)
    have ho' : (⟨1, 0, 0⟩ : Hap).off g3 = false := ho
    unfold stepP
    rw [ho']
    simp only [Bool.false_eq_true, if_false, if_true]
    unfold giveP
    rw [readyRes_ok c3.fine.pl c3.fine.ld, ready_none hall]
    rfl
  refine ⟨g3, [0, 0, 0, 0, 0, 0, 0, 0, 0, 0, 0, 0, 11], ?_, rfl, rfl, rfl, c3.fine, ?_⟩
  · rw [r1, r2, r3]
    simp only [runFrom, hg]
    rfl
  · have hd : g3.dn.getD (g3.pl.length - 1) false = true := count_all (by rw [n3, hld]) (by rw [l3, hld]; decide)
    obtain ⟨e1, _⟩ := honest_end c3.fine c3.honest (t := .two .one .one) (by rw [p3]; rfl) (by rw [l3]; rfl) hd
    unfold outP
    rw [if_neg (fun hn => hn c3.fine.ck), if_neg (by rw [hd]; simp), e1, p3]
    obtain ⟨ha, hb, _, e⟩ := joinP_zero fm_join
    rw [e]
    show (joinU (joinU .nil twoA) twoB, (0 : Int)) = _
    rw [nil_join ha.right]
end Go.Proofs.Ytkfmkemjoddinaa
