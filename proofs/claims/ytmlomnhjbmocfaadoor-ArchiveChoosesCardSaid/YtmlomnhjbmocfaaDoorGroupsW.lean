/- part.groups, Groups: what they compute. -/
import Derived.Test.YtmlomnhjbmocfaaDoorB1
import Derived.Test.YtmlomnhjbmocfaaDoorBC
import Derived.Test.YtmlomnhjbmocfaaDoorBA
import Derived.Test.YtmlomnhjbmocfaaDoorCheckW
set_option linter.all false
namespace Go.Proofs.YtmlomnhjbmocfaaDoor
open Go.RowKit

theorem Tryd.infoStr : (Tryd.prog.info? 9).map (fun i => (i.zero, i.size, i.bytes)) = some (some (.string ⟨#[]⟩), 1, 16) := by kernel_rfl
theorem one_cell3 {w : World} {o : Obj} {u : Value} {t : TypeId} (j : Nat) (u' : Value) (h : [u][j]? = some u') : ((w.alloc o).alloc (.cells #[u] t)).cell? ((⟨w.heap.size + 1, 0, none⟩ : Addr).add j) = some u' := by
  have := one_cell (w := w.alloc o) (t := t) j u' h
  simpa using this
theorem groupsOf_snoc (c : List Frg) (f : Frg) : groupsOf (c ++ [f]) = if f.group.size = 0 ∨ f.group ∈ groupsOf c then groupsOf c else groupsOf c ++ [f.group] := by
  unfold groupsOf; rw [groupsFrom_append]; rfl
theorem groupsFrom_len (l : List ByteArray) (c : List Frg) : (groupsFrom l c).length ≤ l.length + c.length := by
  induction c generalizing l with
  | nil => simp [groupsFrom]
  | cons f r ih =>
    rw [groupsFrom]
    refine Nat.le_trans (ih _) ?_
    split <;> simp <;> omega
theorem groupsOf_len (c : List Frg) : (groupsOf c).length ≤ c.length := by have := groupsFrom_len [] c; simpa [groupsOf] using this

def GroupsIs (w : World) (l : List ByteArray) (e : Ending) (w' : World) : Prop := ∃ v, e = .returned v ∧ w'.ownsRow w.heap.size 9 1 v l.length (strsV l) ∧ Below w.heap.size w w'

def GroupsRes (w : World) (p : Prt) (e : Ending) (w' : World) : Prop := ∃ v, e = .returned (.tuple #[v, .int .i64 (ckPart p)]) ∧ (ckPart p ≠ 0 → v = .slice none 0 0) ∧ (ckPart p = 0 → w'.ownsRow w.heap.size 9 1 v (groupsOf p.frs).length (strsV (groupsOf p.frs))) ∧ Below w.heap.size w w'
end Go.Proofs.YtmlomnhjbmocfaaDoor
