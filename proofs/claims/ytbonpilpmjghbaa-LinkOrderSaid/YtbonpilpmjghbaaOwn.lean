/- Parts in memory of a call's own. No program in sight but its types' numbers. -/
import Derived.Test.YtbonpilpmjghbaaPartE
import Derived.Deep.Onto
set_option linter.all false
namespace Go.Proofs.Ytbonpilpmjghbaa
open Go.RowKit

theorem own_form {w : World} {base size n : Nat} {e : TypeId} {v : Value} {xs : List Value} (h : w.ownsRow base e size v n xs) : ∃ A c, v = .slice A n c ∧ n ≤ c ∧ c ≤ 9223372036854775807 := by
  rcases h.2 with ⟨rfl, rfl⟩ | ⟨g, cap, cur, rfl, _, _, hc, hm, _⟩
  · exact ⟨none, 0, rfl, Nat.le_refl _, by omega⟩
  · exact ⟨_, cap, rfl, hc, by unfold maxLen at hm; exact hm⟩
theorem own_setCell {w : World} {base size n : Nat} {e : TypeId} {v : Value} {xs : List Value} (h : w.ownsRow base e size v n xs) {p : Addr} (hp : v.ownBlock ≠ some p.block) (u : Value) : (w.setCell p u).ownsRow base e size v n xs :=
  h.kept (row := some p.block) ⟨rfl, rfl, rfl, by simp [World.setCell], fun i _ hne => Below.heap_setCell w p u i (fun e => hne (by rw [e]))⟩ (.inr hp)
theorem own_all {w w' : World} {base size n : Nat} {e : TypeId} {v : Value} {xs : List Value} (h : w.ownsRow base e size v n xs) (hb : Below w.heap.size w w') : w'.ownsRow base e size v n xs := own_below h hb

theorem own_ne_own {w : World} {base size n base' size' n' : Nat} {e e' : TypeId} {v v' : Value} {xs xs' : List Value} (h : w.ownsRow base e size v n xs) (h' : w.ownsRow base' e' size' v' n' xs') (hne : e ≠ e') {g : Nat} (hg : v.ownBlock = some g) : v'.ownBlock ≠ some g := by
  rcases h.2 with ⟨rfl, _⟩ | ⟨g', cap, cur, rfl, _, hh, _⟩
  · simp [Value.ownBlock] at hg
  · have : g' = g := by simpa [Value.ownBlock] using hg
    subst this
    exact own_blk_ne h' (show Blk w g' e cur from hh) (Ne.symm hne)
structure FgM.Own (w : World) (base : Nat) (x : FgM) : Prop where
  by_ : w.ownsRow base 5 1 x.byV x.f.bs.length (bytesV x.f.bs)
  re : w.ownsRow base 121 5 x.reV x.f.rs.length (relsV x.f.rs)
theorem FgM.Own.set_ {w : World} {base g j : Nat} {x : FgM} (h : x.Own w base) (h1 : x.byV.ownBlock ≠ some g) (h2 : x.reV.ownBlock ≠ some g) (u : Value) : x.Own (w.setCell ⟨g, j, none⟩ u) base := ⟨own_setCell h.by_ h1 u, own_setCell h.re h2 u⟩
/-- No two have their places in one block. -/
def ApartR (l : List FgM) : Prop := l.Pairwise fun x y => ∀ g, x.reV.ownBlock = some g → y.reV.ownBlock ≠ some g
structure PtM.Own (w : World) (base : Nat) (p : PtM) : Prop where
  fr : w.ownsRow base 73 6 p.frV p.frs.length (fgsV p.frs)
  df : w.ownsRow base 77 6 p.dfV p.dfs.length (dfsV p.dfs)
  each : ∀ x ∈ p.frs, x.Own w base
  apart : ApartR p.frs

section
variable {w w' : World} {base : Nat} {x : FgM} {p : PtM}
theorem FgM.Own.all (h : x.Own w base) (hb : Below w.heap.size w w') : x.Own w' base := ⟨own_all h.by_ hb, own_all h.re hb⟩
theorem PtM.Own.all (h : p.Own w base) (hb : Below w.heap.size w w') : p.Own w' base := ⟨own_all h.fr hb, own_all h.df hb, fun x hx => (h.each x hx).all hb, h.apart⟩
theorem FgM.Own.good (h : x.Own w base) : x.Good w w.heap.size := by
  obtain ⟨A, c, e1, h1, h2⟩ := own_form h.by_
  obtain ⟨A', c', e1', h1', h2'⟩ := own_form h.re
  exact ⟨Reads.of_own h.by_, Reads.of_own h.re, by omega, by omega⟩
theorem PtM.Own.at_ (h : p.Own w base) : p.At w w.heap.size := by
  obtain ⟨A, c, e1, h1, h2⟩ := own_form h.fr
  obtain ⟨A', c', e1', h1', h2'⟩ := own_form h.df
  exact ⟨Reads.of_own h.fr, fun x hx => (h.each x hx).good, Reads.of_own h.df, by omega, by omega⟩
end

/-- What a right part's sizes are. -/
structure PtM.Small (p : PtM) : Prop where
  fr : p.frs.length ≤ 60
  df : p.dfs.length ≤ 60
  by_ : ∀ x ∈ p.frs, x.f.bs.length ≤ 64
  re : ∀ x ∈ p.frs, x.f.rs.length ≤ 8
theorem small_of {p : PtM} (h : ckPart p.er = 0) : p.Small := by
  by_cases h1 : 60 < p.er.frs.length ∨ 60 < p.er.dfs.length
  · rw [ckPart_1 h1] at h; cases h
  · have hf : ∀ x ∈ p.frs, ¬ (64 < x.f.bs.length ∨ 8 < x.f.rs.length) := fun x hx hn => by
      by_cases h2 : firstBad (p.er.frs.map (ckFrag p.er.frs.length)) = 0
      · have := firstBad_zero.1 h2 (ckFrag p.er.frs.length x.f) (List.mem_map_of_mem (by simp only [PtM.er]; exact List.mem_map_of_mem hx))
        unfold ckFrag at this
        split at this
        · cases this
        · split at this
          · cases this
          · first | (rw [if_pos hn] at this; cases this) | cases this
      · rw [ckPart_2 h1 h2] at h; exact h2 h
    have l1 : p.er.frs.length = p.frs.length := by simp [PtM.er]
    have l2 : p.er.dfs.length = p.dfs.length := by simp [PtM.er]
    exact ⟨by omega, by omega, fun x hx => by have := hf x hx; omega, fun x hx => by have := hf x hx; omega⟩

theorem fgsV_append (l m : List FgM) : fgsV (l ++ m) = fgsV l ++ fgsV m := by unfold fgsV; rw [List.flatMap_append]
theorem fgsV_len (l : List FgM) : (fgsV l).length = l.length * 6 := flatMap_len FgM.cells_len l
theorem fgsV_set {l r : List FgM} {x y : FgM} (h1 : y.f.sect = x.f.sect) (h2 : y.f.align = x.f.align) (h3 : y.f.group = x.f.group) (h4 : y.f.size = x.f.size) :
    ((fgsV (l ++ x :: r)).set (l.length * 6 + 3) y.byV).set (l.length * 6 + 5) y.reV = fgsV ((l ++ [y]) ++ r) := by
  rw [fgsV_append, fgsV_append, fgsV_append]
  have e : fgsV (x :: r) = x.cells ++ fgsV r := by unfold fgsV; rw [List.flatMap_cons]
  have e' : fgsV [y] = y.cells := by unfold fgsV; simp
  rw [e, e', List.append_assoc, List.set_append_right _ _ (by rw [fgsV_len]; omega), List.set_append_right _ _ (by rw [fgsV_len]; omega), fgsV_len, Nat.add_sub_cancel_left, Nat.add_sub_cancel_left]
  congr 1
  unfold FgM.cells
  rw [h1, h2, h3, h4]
  rfl
end Go.Proofs.Ytbonpilpmjghbaa
