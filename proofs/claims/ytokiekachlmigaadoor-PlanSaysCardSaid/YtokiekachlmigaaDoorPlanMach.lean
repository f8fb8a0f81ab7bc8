/- The document's Make works with a stack: what it makes is the tree's plan. No program in sight. -/
import Derived.Test.YtokiekachlmigaaDoorBA
set_option linter.all false
namespace Go.Proofs.YtokiekachlmigaaDoor

theorem growT_shift (p : Nat → Int) (s : Nat) : ∀ n next, 1 ≤ n → growT p n (next + s) = growT (fun j => p (j + s)) n next := by
  intro n
  induction n using Nat.strongRecOn with
  | _ n ih =>
    intro next hn
    by_cases h1 : n = 1
    · subst h1; rw [growT_one, growT_one]
    · obtain ⟨k, hk, hkn⟩ := pick_bounds p (next + s) (show 2 ≤ n by omega)
      rw [growT_two (by omega) hk, growT_two (p := fun j => p (j + s)) (k := k) (by omega) hk]
      rw [show next + s + 1 = next + 1 + s by omega, show next + 1 + s + k = next + 1 + k + s by omega, ih _ (by omega) _ (by omega), ih _ (by omega) _ (by omega)]
structure Span where
  from_ : Int
  n : Int
  up : Bool
  left : Int
def treeOf (picks : List Int) (n : Int) : Tr := growT (fun j => picks.getD j 0) n.toNat 0
/-- What is made where the stack (its top first) is worked off. -/
def fin : List Span → List Int → List Nd → List Int → List Nd
  | [], _, l, _ => l
  | s :: t, done, l, picks =>
    if s.up then fin t (done.take (done.length - 2) ++ [(l.length : Int)]) (l ++ [⟨-1, done.getD (done.length - 2) 0, done.getD (done.length - 1) 0⟩]) picks
    else fin t (done ++ [(l.length : Int) + (treeOf picks s.n).size - 1]) (l ++ (treeOf picks s.n).flat l.length s.from_) (picks.drop (s.n.toNat - 1))
def Span.wt (s : Span) : Nat := if s.up then 1 else 2 * s.n.toNat - 1
def Span.ms (s : Span) : Nat := if s.up then 1 else 3 * s.n.toNat - 2
def wts (t : List Span) : Nat := (t.map Span.wt).sum
def mss (t : List Span) : Nat := (t.map Span.ms).sum
/-- Enough is done wherever two are taken. -/
def okS : List Span → Nat → Prop
  | [], _ => True
  | s :: t, d => if s.up then 2 ≤ d ∧ okS t (d - 1) else 1 ≤ s.n ∧ s.n ≤ 12 ∧ okS t (d + 1)
theorem tree_one (picks : List Int) : treeOf picks 1 = .one := growT_one _ _
theorem fin_one {s : Span} {t : List Span} {done : List Int} {l : List Nd} {picks : List Int} (h : s.up = false) (hn : s.n = 1) :
    fin (s :: t) done l picks = fin t (done ++ [(l.length : Int)]) (l ++ [⟨s.from_, 0, 0⟩]) picks := by
  rw [fin, h, hn, tree_one]
  simp [Tr.size, Tr.flat]
theorem fin_up {s : Span} {t : List Span} {done : List Int} {l : List Nd} {picks : List Int} (h : s.up = true) :
    fin (s :: t) done l picks = fin t (done.take (done.length - 2) ++ [(l.length : Int)]) (l ++ [⟨-1, done.getD (done.length - 2) 0, done.getD (done.length - 1) 0⟩]) picks := by
  rw [fin, h]; rfl
theorem tree_two {picks : List Int} {n : Int} {k : Nat} (hn : 2 ≤ n) (hk : picks.headD 0 % (n - 1) = k) :
    treeOf picks n = .two (treeOf picks.tail ((k : Int) + 1)) (treeOf (picks.tail.drop k) (n - k - 1)) := by
  have hp : picks.getD 0 0 = picks.headD 0 := by cases picks <;> rfl
  have hlt := Int.emod_lt_of_pos (picks.headD 0) (show (0 : Int) < n - 1 by omega)
  rw [hk] at hlt
  unfold treeOf
  rw [growT_two (k := k) (by omega) (by rw [hp, show ((n.toNat - 1 : Nat) : Int) = n - 1 by omega]; exact hk)]
  have e1 : growT (fun j => picks.getD j 0) (k + 1) (0 + 1) = growT (fun j => picks.tail.getD j 0) (k + 1) 0 := by
    rw [growT_shift _ 1 _ _ (by omega)]
    congr 1
    funext j
    cases picks <;> simp
  have e2 : growT (fun j => picks.getD j 0) (n.toNat - k - 1) (0 + 1 + k) = growT (fun j => (picks.tail.drop k).getD j 0) (n.toNat - k - 1) 0 := by
    rw [show 0 + 1 + k = 0 + (1 + k) by omega, growT_shift _ (1 + k) _ _ (by omega)]
    congr 1
    funext j
    cases picks with
    | nil => simp
    | cons a r =>
      show (a :: r).getD (j + (1 + k)) 0 = ((a :: r).tail.drop k).getD j 0
      rw [List.tail_cons, List.getD_eq_getElem?_getD, List.getD_eq_getElem?_getD, List.getElem?_drop, show j + (1 + k) = (k + j) + 1 by omega, List.getElem?_cons_succ]
  rw [e1, e2, show ((k : Int) + 1).toNat = k + 1 by omega, show (n - (k : Int) - 1).toNat = n.toNat - k - 1 by omega]
theorem fin_span {s : Span} {t : List Span} {done : List Int} {l : List Nd} {picks : List Int} (h : s.up = false) :
    fin (s :: t) done l picks = fin t (done ++ [(l.length : Int) + (treeOf picks s.n).size - 1]) (l ++ (treeOf picks s.n).flat l.length s.from_) (picks.drop (s.n.toNat - 1)) := by
  rw [fin, h]; rfl
theorem fin_two {s : Span} {t : List Span} {done : List Int} {l : List Nd} {picks : List Int} {k : Nat} (h : s.up = false) (hn : 2 ≤ s.n) (hk : picks.headD 0 % (s.n - 1) = k) (u : Span) (hu : u.up = true) (x : Int) :
    fin (s :: t) done l picks = fin (⟨s.from_, k + 1, false, x⟩ :: ⟨s.from_ + k + 1, s.n - k - 1, false, x⟩ :: u :: t) done l picks.tail := by
  have hlt := Int.emod_lt_of_pos (picks.headD 0) (show (0 : Int) < s.n - 1 by omega)
  rw [hk] at hlt
  have p1 := (treeOf picks.tail ((k : Int) + 1)).size_pos
  have p2 := (treeOf (picks.tail.drop k) (s.n - k - 1)).size_pos
  have l1 : (treeOf picks.tail ((k : Int) + 1)).leaves = k + 1 := by unfold treeOf; rw [growT_leaves _ _ _ (by omega)]; omega
  rw [fin_span h, fin_span (s := ⟨s.from_, k + 1, false, x⟩) rfl, fin_span (s := ⟨s.from_ + k + 1, s.n - k - 1, false, x⟩) rfl]
  simp only
  rw [fin_up hu, tree_two hn hk, show ((k : Int) + 1).toNat - 1 = k by omega, List.drop_drop]
  have e1 : picks.tail.drop (k + ((s.n - k - 1).toNat - 1)) = picks.drop (s.n.toNat - 1) := by
    rw [← List.drop_one, List.drop_drop]
    congr 1
    omega
  rw [e1]
  simp only [List.length_append, List.length_singleton, Tr.flat_len, Tr.size, Tr.flat, List.append_assoc]
  have hd : ∀ a b : Int, (done ++ ([a] ++ [b])).take (done.length + (1 + 1) - 2) = done := fun a b => by
    rw [show done.length + (1 + 1) - 2 = done.length by omega, List.take_left]
  have hg1 : ∀ a b : Int, (done ++ ([a] ++ [b])).getD (done.length + (1 + 1) - 2) 0 = a := fun a b => by
    rw [show done.length + (1 + 1) - 2 = done.length by omega, List.getD_eq_getElem?_getD, List.getElem?_append_right (Nat.le_refl _), Nat.sub_self]; rfl
  have hg2 : ∀ a b : Int, (done ++ ([a] ++ [b])).getD (done.length + (1 + 1) - 1) 0 = b := fun a b => by
    rw [show done.length + (1 + 1) - 1 = done.length + 1 by omega, List.getD_eq_getElem?_getD, List.getElem?_append_right (by omega), show done.length + 1 - done.length = 1 by omega]; rfl
  rw [hd, hg1, hg2, l1]
  obtain ⟨a, ha⟩ : ∃ a, (treeOf picks.tail ((k : Int) + 1)).size = a := ⟨_, rfl⟩
  obtain ⟨b, hb⟩ : ∃ b, (treeOf (picks.tail.drop k) (s.n - k - 1)).size = b := ⟨_, rfl⟩
  rw [ha, hb, show (l.length : Int) + ((a + b + 1 : Nat) : Int) - 1 = ((l.length + (a + b) : Nat) : Int) by omega, show s.from_ + ((k + 1 : Nat) : Int) = s.from_ + k + 1 by omega,
    show ((l.length + a : Nat) : Int) - 1 = (l.length : Int) + (a : Int) - 1 by omega, show ((l.length + a + b : Nat) : Int) - 1 = ((l.length + a : Nat) : Int) + (b : Int) - 1 by omega]
theorem fin_start (parts : Nat) (h : 1 ≤ parts) (picks : List Int) (x : Int) : fin [⟨0, parts, false, x⟩] [] [] picks = (growT (fun j => picks.getD j 0) parts 0).flat 0 0 := by
  rw [fin_span rfl, fin]
  simp only [List.nil_append]
  unfold treeOf
  rw [show ((parts : Nat) : Int).toNat = parts by omega]
  rfl
end Go.Proofs.YtokiekachlmigaaDoor
