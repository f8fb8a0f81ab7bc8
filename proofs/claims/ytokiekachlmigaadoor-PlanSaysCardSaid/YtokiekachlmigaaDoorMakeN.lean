/- make([]T, n) where T has one cell. No program in sight. -/
import Derived.Test.YtokiekachlmigaaDoorBA
import Derived.Laws.MakeOwn
set_option linter.all false
namespace Go.Proofs.YtokiekachlmigaaDoor
open Go.RowKit

theorem run_make_one {P : Program} (t e : TypeId) (i : TypeInfo) (z : Value) (ht : P.underlying t = some (.slice e)) (hi : P.info? e = some i) (hz : i.zero = some z) (hs : i.size = 1) (hzc : z.cells = #[z]) (b : Nat) (hb : i.bytes = b)
    (n : Nat) (hn : n ≤ 1000000) (hbb : b ≤ 100) (w : World) :
    (Instr.makeSlice t (.int .i64 (n : Int)) (.int .i64 (n : Int))).run P w = .ok (.slice (some ⟨w.heap.size, 0, none⟩) n n) (w.alloc (.cells ((List.range n).map fun _ => z).toArray e)) := by
  have hbytes : i.bytes * n ≤ 281474976710656 := by
    rw [hb]
    have := Nat.mul_le_mul hbb hn
    omega
  have hb' : (i.bytes : Int) * (n : Int) ≤ 281474976710656 := by
    have h : ((i.bytes * n : Nat) : Int) ≤ 281474976710656 := by omega
    rwa [Int.natCast_mul] at h
  have hr := run_make (P := P) w t e i z ht hi hz .i64 .i64 n n (by omega) (Int.le_refl _) hb' (by omega)
  simp only [Int.toNat_natCast] at hr
  have hc : madeCells z.cells (n * i.size) = ((List.range n).map fun _ => z).toArray := by
    rw [hs, hzc, Nat.mul_one]
    apply Array.ext_getElem?
    intro j
    unfold madeCells
    rcases Nat.lt_or_ge j n with hj | hj
    · simp [hj, Nat.mod_one]
    · simp [hj]
  rw [hr, hc]
end Go.Proofs.YtokiekachlmigaaDoor
