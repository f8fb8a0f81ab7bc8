/- ropewalkref.LaidOut of a right part from a right base: what it computes. -/
import Derived.Test.YtmlomnhjbmocfaaDoorLayW
import Derived.Test.YtmlomnhjbmocfaaDoorLayK
import Derived.Test.YtmlomnhjbmocfaaDoorRefNext
import Derived.Test.YtmlomnhjbmocfaaDoorRefSet
import Derived.Test.YtmlomnhjbmocfaaDoorRefFound
import Derived.Test.YtmlomnhjbmocfaaDoorRefA
import Derived.Test.YtmlomnhjbmocfaaDoorB1
import Derived.Test.YtmlomnhjbmocfaaDoorHeldU
set_option linter.all false
namespace Go.Proofs.YtmlomnhjbmocfaaDoor
open Go.RowKit

/-- What lies there inside section s, after k fragments. -/
structure LayJn (w1 w' : World) (p : Prt) (base gO s k : Nat) : Prop where
  o : Blk w' gO 30 (lcells (.slice (some ⟨w1.heap.size, 0, none⟩) p.frs.length p.frs.length) (.slice none 0 0) (.slice none 0 0) (sixAt (secFrom p.frs base) s) (sixAt (toN p base) (s - 1))).toArray
  f : Blk w' w1.heap.size 3 (intsV (frAt p.frs base s k)).toArray
  be : Below w1.heap.size w1 w'
  sz : gO < w'.heap.size
section
variable {w1 w w' : World} {p : Prt} {base gO s k : Nat}
theorem LayJn.all (h : LayJn w1 w p base gO s k) (hb : Below w.heap.size w w') : LayJn w1 w' p base gO s k :=
  ⟨h.o.all hb, h.f.all hb, h.be.trans (hb.mono h.be.size), by have := h.sz; have := hb.size; omega⟩
theorem LayJn.alloc (h : LayJn w1 w p base gO s k) (o : Obj) : LayJn w1 (w.alloc o) p base gO s k := h.all ((Below.refl _ _).alloc (Nat.le_refl _) _)
theorem LayJn.skip (h : LayJn w1 w p base gO s k) {f : Frg} (hf : p.frs[k]? = some f) (hs : f.sect ≠ s) : LayJn w1 w p base gO s (k + 1) :=
  ⟨h.o, by rw [← frAt_skip hf hs]; exact h.f, h.be, h.sz⟩
theorem LayJn.put (h : LayJn w1 w p base gO s k) (hne : w1.heap.size ≠ gO) {f : Frg} (hf : p.frs[k]? = some f) (hs : f.sect = s) : LayJn w1 (w.setCell ⟨w1.heap.size, k, none⟩ (.int .i64 (adrOf p.frs base k : Nat))) p base gO s (k + 1) :=
  ⟨h.o.far (fun e => hne e.symm) _, by rw [← frAt_set hf hs, ← intsV_set]; exact h.f.set_ k _, h.be.setCell (Nat.le_refl _) _, by simpa [World.setCell] using h.sz⟩
end
theorem no_next {P : Frg → Prop} {fs : List Frg} {j : Nat} {y : Frg} (h : ∀ j', j' < j → ∀ g, fs[j']? = some g → ¬ P g) (hy : fs[j]? = some y) (hn : ¬ P y) : ∀ j', j' < j + 1 → ∀ g, fs[j']? = some g → ¬ P g := fun j' hj g hg => by
  rcases Nat.lt_or_ge j' j with h1 | h1
  · exact h j' h1 g hg
  · obtain rfl : j' = j := by omega
    rw [hy] at hg
    injection hg with hg
    rw [← hg]
    exact hn
/-- The layout's arrays are of the call's own. -/
def LyM.Far (B : Nat) (l : LyM) : Prop := (∀ a, l.fa = some a → B ≤ a.block) ∧ (∀ a, l.na = some a → B ≤ a.block) ∧ ∀ a, l.ca = some a → B ≤ a.block
def LayFar (w : World) (p : Prt) (base : Int) (e : Ending) (w' : World) : Prop :=
  ∃ l : LyM, e = .returned (.tuple #[.agg l.cells.toArray, .int .i64 (layE p base)]) ∧ l.r = layR p base ∧ l.At w' w'.heap.size ∧ l.Far w.heap.size ∧ Below w.heap.size w w'
theorem own_far {w : World} {base size n m c : Nat} {e : TypeId} {A : Option Addr} {xs : List Value} (h : w.ownsRow base e size (.slice A n c) m xs) : ∀ a, A = some a → base ≤ a.block := by
  intro a ha
  subst ha
  rcases h.2 with ⟨h1, _⟩ | ⟨g, cap, cur, h1, hg, _⟩
  · injection h1 with h1; cases h1
  · injection h1 with h1
    injection h1 with h1
    subst h1
    exact hg
end Go.Proofs.YtmlomnhjbmocfaaDoor
