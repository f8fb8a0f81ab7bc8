/- Parts of a call's own: kept where other blocks are written; made of whole blocks. No program in sight but its types' numbers. -/
import Derived.Test.YtbonpilpmjghbaaDropD
set_option linter.all false
namespace Go.Proofs.Ytbonpilpmjghbaa
open Go.RowKit

theorem own_of_blk {w : World} {g : Nat} {t : TypeId} {cs : Array Value} (h : Blk w g t cs) {base size n : Nat} (hb : base ≤ g) (hs : cs.size = n * size) (hm : n ≤ 9223372036854775807) : w.ownsRow base t size (.slice (some ⟨g, 0, none⟩) n n) n cs.toList :=
  ⟨by simpa using hs, .inr ⟨g, n, cs, rfl, hb, h, Nat.le_refl _, by unfold maxLen; exact hm, hs, by rw [← hs]; exact List.take_of_length_le (by simp)⟩⟩
theorem PtM.Own.blk {w : World} {base g j : Nat} {t : TypeId} {cs : Array Value} {p : PtM} (h : p.Own w base) (hb : Blk w g t cs) (h1 : 73 ≠ t) (h2 : 77 ≠ t) (h3 : 5 ≠ t) (h4 : 121 ≠ t) (u : Value) : p.Own (w.setCell ⟨g, j, none⟩ u) base :=
  ⟨own_setCell h.fr (own_blk_ne h.fr hb h1) _, own_setCell h.df (own_blk_ne h.df hb h2) _, fun x hx => (h.each x hx).blk hb h3 h4 _, h.apart⟩
theorem PtM.Own.mono {w : World} {base base' : Nat} {p : PtM} (h : p.Own w base) (hB : base' ≤ base) : p.Own w base' := ⟨h.fr.mono hB, h.df.mono hB, fun x hx => ⟨(h.each x hx).by_.mono hB, (h.each x hx).re.mono hB⟩, h.apart⟩
theorem PtM.Own.alloc {w : World} {base : Nat} {p : PtM} (h : p.Own w base) (o : Obj) : p.Own (w.alloc o) base := ⟨h.fr.alloc o, h.df.alloc o, fun x hx => (h.each x hx).alloc o, h.apart⟩

theorem PtM.Own.drew {w : World} {base : Nat} {p : PtM} (h : p.Own w base) : p.Own w.drew base := ⟨h.fr.drew, h.df.drew, fun x hx => ⟨(h.each x hx).by_.drew, (h.each x hx).re.drew⟩, h.apart⟩
end Go.Proofs.Ytbonpilpmjghbaa
