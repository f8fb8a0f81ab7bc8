/- ropewalkref.Chosen under way: a row of parts in a box, a row of pairs. -/
import Derived.Test.YtmlomnhjbmocfaaDoorRefPr
import Derived.Test.YtmlomnhjbmocfaaDoorRefLackC
import Derived.Test.YtmlomnhjbmocfaaDoorArcW
import Derived.Test.YtmlomnhjbmocfaaDoorB1
set_option linter.all false
namespace Go.Proofs.YtmlomnhjbmocfaaDoor
open Go.RowKit

theorem Tryd.infoPair : (Tryd.prog.info? 97).map (fun i => (i.zero, i.size, i.bytes)) = some (some (.agg #[.int .i64 0, .int .i64 0]), 2, 16) := by kernel_rfl
/-- While the document chooses: what has been taken, in a box; which part of which item each is. -/
structure CX (w wr : World) (g3 g4 : Nat) (Af : Option Addr) (cf : Nat) (first : List ByteArray) (z v5 : Value) (qs : List PtM) (F : List (Nat × Nat)) : Prop where
  k3 : Blk wr g3 27 #[.slice Af first.length cf]
  k4 : Blk wr g4 41 #[z]
  oz : wr.ownsRow w.heap.size 25 2 z qs.length (ptsV qs)
  oF : wr.ownsRow w.heap.size 97 2 v5 F.length (prV F)
  be : Below w.heap.size w wr
  h4 : w.heap.size ≤ g4
section
variable {w wr w' : World} {g3 g4 : Nat} {Af : Option Addr} {cf : Nat} {first : List ByteArray} {z v5 : Value} {qs : List PtM} {F : List (Nat × Nat)}
theorem CX.all (h : CX w wr g3 g4 Af cf first z v5 qs F) (hs : Below wr.heap.size wr w') : CX w w' g3 g4 Af cf first z v5 qs F :=
  ⟨h.k3.all hs, h.k4.all hs, own_all h.oz hs, own_all h.oF hs, h.be.trans (hs.mono h.be.size), h.h4⟩
theorem CX.pushed {p : PtM} {y : Nat × Nat} {z' v5' : Value} (k3 : Blk wr g3 27 #[.slice Af first.length cf]) (k4 : Blk wr g4 41 #[z])
    (oz : wr.ownsRow w.heap.size 25 2 z' (qs.length + 1) (ptsV qs ++ [.slice p.fa p.frs.length p.fc, .slice p.da p.dfs.length p.dc]))
    (oF : wr.ownsRow w.heap.size 97 2 v5' (F.length + 1) (prV F ++ [.int .i64 y.1, .int .i64 y.2])) (be : Below w.heap.size w wr) (h4 : w.heap.size ≤ g4) :
    CX w (wr.setCell ⟨g4, 0, none⟩ z') g3 g4 Af cf first z' v5' (qs ++ [p]) (F ++ [y]) := by
  refine ⟨k3.far (k3.ne_ k4 (by decide)) _, k4.set_ 0 z', ?_, ?_, be.setCell h4 _, h4⟩
  · have := own_setCell oz (own_blk_ne oz k4 (by decide)) (p := ⟨g4, 0, none⟩) z'
    rw [List.length_append, List.length_singleton]
    have e : ptsV (qs ++ [p]) = ptsV qs ++ [.slice p.fa p.frs.length p.fc, .slice p.da p.dfs.length p.dc] := by unfold ptsV; rw [List.flatMap_append]; rfl
    rw [e]
    exact this
  · have := own_setCell oF (own_blk_ne oF k4 (by decide)) (p := ⟨g4, 0, none⟩) z'
    rw [List.length_append, List.length_singleton]
    have e : prV (F ++ [y]) = prV F ++ [.int .i64 y.1, .int .i64 y.2] := by unfold prV; rw [List.flatMap_append]; rfl
    rw [e]
    exact this
end
/-- The marks of an item's parts, and the pairs. -/
def Marks (k : Nat) (t : List Bool) (F : List (Nat × Nat)) : Prop := (∀ m, t[m]? = some true ↔ (k, m) ∈ F) ∧ ∀ y ∈ F, y.1 ≤ k
theorem Marks.start {k n : Nat} {F : List (Nat × Nat)} (h : ∀ y ∈ F, y.1 < k) : Marks k (List.replicate n false) F :=
  ⟨fun m => ⟨fun e => by rw [List.getElem?_replicate] at e; split at e <;> simp at e, fun e => absurd (h _ e) (by simp)⟩, fun y hy => Nat.le_of_lt (h y hy)⟩
theorem Marks.take {k m : Nat} {t : List Bool} {F : List (Nat × Nat)} (h : Marks k t F) (hm : m < t.length) : Marks k (t.set m true) (F ++ [(k, m)]) := by
  refine ⟨fun j => ?_, fun y hy => ?_⟩
  · rw [List.getElem?_set, List.mem_append, ← h.1 j]
    by_cases e : m = j
    · subst e; simp [hm]
    · simp [e, Ne.symm e]
  · rcases List.mem_append.1 hy with hy | hy
    · exact h.2 y hy
    · simp at hy; subst hy; exact Nat.le_refl _
theorem Marks.in_ {k m : Nat} {t : List Bool} {F : List (Nat × Nat)} (h : Marks k t F) {b : Bool} (hb : t[m]? = some b) : decide ((k, m) ∈ F) = b := by
  cases b with
  | true => exact decide_eq_true ((h.1 m).1 hb)
  | false => exact decide_eq_false fun e => by rw [← h.1 m, hb] at e; cases e
theorem any_take {l : List Df} {f : Df → Bool} {j : Nat} {d : Df} (h : l[j]? = some d) (hn : (l.take j).any f = false) : (l.take (j + 1)).any f = f d := by
  rw [List.take_add_one, h, List.any_append, hn]
  simp
theorem any_some {l : List Df} {f : Df → Bool} {j : Nat} {d : Df} (h : l[j]? = some d) (hf : f d = true) : l.any f = true := List.any_eq_true.2 ⟨d, List.mem_of_getElem? h, hf⟩
end Go.Proofs.YtmlomnhjbmocfaaDoor
