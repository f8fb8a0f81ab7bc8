/- Layouts: bounds, cells by number; where there is none. No program in sight. -/
import Derived.Test.YtmlomnhjbmocfaaDoorLayH
set_option linter.all false
namespace Go.Proofs.YtmlomnhjbmocfaaDoor
open Go.RowKit

theorem toN_moved {p : Prt} (hc : ckPart p = 0) (base m : Nat) (hm : 16 ∣ m) (s : Nat) : toN p (base + m) s = toN p base s + m := by
  unfold toN
  split
  · rw [layEnd_moved hc _ _ hm]
  · exact secEnd_moved (lays_of hc) _ _ hm _
theorem secFrom_le {p : Prt} {base s : Nat} (hc : ckPart p = 0) (h : base < 65536) (hs1 : 1 ≤ s) (hs : s ≤ 5) : secFrom p.frs base s ≤ 200000 := posAt_le (lays_of hc) hs1 hs (Nat.zero_le _) h
theorem toN_le {p : Prt} {base s : Nat} (hc : ckPart p = 0) (h : layE p base = 0) (hs : s ≤ 5) : toN p base s ≤ 200000 := by
  have h1 := layE_zero h
  unfold toN
  split
  · have := h1.2.2.2
    have e : (base : Int).toNat = base := by omega
    rw [e] at this
    omega
  · have := secEnd_le (lays_of hc) base s
    omega
theorem cs_le {p : Prt} {base k c : Nat} (h : layE p base = 0) (hk : (layEnd p base).cs[k]? = some c) : c ≤ 65536 := by
  obtain ⟨hc, _, _, h3⟩ := layE_zero h
  have e : (base : Int).toNat = base := by omega
  rw [e] at h3
  have hl := lay_len hc base
  obtain ⟨hk1, hv⟩ := List.getElem?_eq_some_iff.1 hk
  have hk2 : k < (layEnd p base).ns.length := by omega
  obtain ⟨d, _, _, _, _, h5, _⟩ := (com_at (comOk_of hc) _ (definedP p)).each k ((layEnd p base).ns[k]'hk2) c (List.getElem?_eq_getElem hk2) hk
  have e2 : (comAt p.dfs (secEnd p.frs base 5) (definedP p)).at_ = (layEnd p base).at_ := rfl
  omega
theorem lay_cells_bad {p : Prt} {base : Int} {l : LyM} (hr : l.r = layR p base) (h : layE p base ≠ 0) : l.cells.toArray = #[.slice (l).fa 0 (l).fc, .slice (l).na 0 (l).nc, .slice (l).ca 0 (l).cc, .int .i64 0, .int .i64 0, .int .i64 0, .int .i64 0, .int .i64 0, .int .i64 0, .int .i64 0, .int .i64 0, .int .i64 0, .int .i64 0, .int .i64 0, .int .i64 0] := by
  unfold layR at hr
  rw [if_neg h] at hr
  unfold LyM.cells
  rw [hr]
  rfl
theorem lyx_from {v1 v2 v3 : Value} {f t : Nat → Nat} {s : Nat} (h1 : 1 ≤ s) (h5 : s ≤ 5) : (#[v1, v2, v3, .int .i64 0, .int .i64 (f 1 : Nat), .int .i64 (f 2 : Nat), .int .i64 (f 3 : Nat), .int .i64 (f 4 : Nat), .int .i64 (f 5 : Nat), .int .i64 0, .int .i64 (t 1 : Nat), .int .i64 (t 2 : Nat), .int .i64 (t 3 : Nat), .int .i64 (t 4 : Nat), .int .i64 (t 5 : Nat)] : Array Value)[3 + s]? = some (.int .i64 (f s : Nat)) := by
  match s, h1, h5 with
  | 1, _, _ => rfl
  | 2, _, _ => rfl
  | 3, _, _ => rfl
  | 4, _, _ => rfl
  | 5, _, _ => rfl
theorem lyx_to {v1 v2 v3 : Value} {f t : Nat → Nat} {s : Nat} (h1 : 1 ≤ s) (h5 : s ≤ 5) : (#[v1, v2, v3, .int .i64 0, .int .i64 (f 1 : Nat), .int .i64 (f 2 : Nat), .int .i64 (f 3 : Nat), .int .i64 (f 4 : Nat), .int .i64 (f 5 : Nat), .int .i64 0, .int .i64 (t 1 : Nat), .int .i64 (t 2 : Nat), .int .i64 (t 3 : Nat), .int .i64 (t 4 : Nat), .int .i64 (t 5 : Nat)] : Array Value)[9 + s]? = some (.int .i64 (t s : Nat)) := by
  match s, h1, h5 with
  | 1, _, _ => rfl
  | 2, _, _ => rfl
  | 3, _, _ => rfl
  | 4, _, _ => rfl
  | 5, _, _ => rfl
end Go.Proofs.YtmlomnhjbmocfaaDoor
