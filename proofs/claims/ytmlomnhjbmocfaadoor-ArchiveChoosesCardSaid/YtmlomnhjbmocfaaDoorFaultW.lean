/- names.Faults: what it computes. -/
import Derived.Test.YtmlomnhjbmocfaaDoorNameW
import Derived.Test.YtmlomnhjbmocfaaDoorDropW
set_option linter.all false
namespace Go.Proofs.YtmlomnhjbmocfaaDoor
open Go.RowKit

/-- What is wrong with a name. -/
structure Flt where
  e : Int
  name : ByteArray
def Flt.cells (f : Flt) : List Value := [.int .i64 (f.e), .string (f.name), .int .i64 0, .int .i64 0]
def fltsV (l : List Flt) : List Value := l.flatMap Flt.cells
theorem fltsV_append (l m : List Flt) : fltsV (l ++ m) = fltsV l ++ fltsV m := by unfold fltsV; rw [List.flatMap_append]
def fltOf (dfs : List Df) (s : ByteArray) : Option Flt := if (findL dfs s).2 = 0 then none else some ⟨(findL dfs s).2, s⟩
def faultsP (p : Prt) : List Flt := (setS (wantedP p ++ definedP p)).filterMap (fltOf p.dfs)
theorem flt_one (f : Flt) : ∀ u ∈ f.cells, u.oneCell' = true := by
  intro u hu
  simp [Flt.cells] at hu
  rcases hu with rfl | rfl | rfl | rfl <;> rfl
theorem str_get {w : World} {B : Nat} {A : Option Addr} {l : List ByteArray} (h : Reads w B 1 A l.length (strsV l)) {i : Nat} {s : ByteArray} (hx : l[i]? = some s) : ∃ b off, A = some ⟨b, off, none⟩ ∧ w.cell? ⟨b, off + i, none⟩ = some (.string s) := by
  rw [strsV_flat] at h
  obtain ⟨b, off, e, hb, hc⟩ := cells_get (cells := fun s : ByteArray => [.string s]) (fun _ => rfl) h hx
  exact ⟨b, off, e, by simpa using hc 0 _ rfl⟩
theorem strs_one (l : List ByteArray) : ∀ u ∈ strsV l, u.oneCell' = true := by
  intro u hu
  obtain ⟨s, _, rfl⟩ := List.mem_map.1 hu
  rfl

end Go.Proofs.YtmlomnhjbmocfaaDoor
