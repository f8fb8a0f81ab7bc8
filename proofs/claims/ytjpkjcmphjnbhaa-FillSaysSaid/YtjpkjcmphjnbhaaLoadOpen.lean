/- An image among a row's arguments, opened. -/
import Derived.Test.YtjpkjcmphjnbhaaOpen
import Derived.Test.YtjpkjcmphjnbhaaLoadD
import Derived.Test.YtjpkjcmphjnbhaaChecked
import Derived.ProofKit
import Derived.Lib.SmallJoins
import Derived.KernelRfl
namespace Go.Proofs.Ytjpkjcmphjnbhaa
open Go.RowKit Go.ChangeShapes Go.WideShapes Go.Deep Go.Joins

theorem bytesV_flat (l : List UInt8) : bytesV l = l.flatMap (fun b : UInt8 => [.int .u8 ((b.toNat : Nat) : Int)]) := by
  induction l with
  | nil => rfl
  | cons b l ih => rw [List.flatMap_cons, ← ih]; rfl

theorem Try.segFields : ∃ f0 f1 f2 f3 f4 : Field, Try.prog.underlying 39 = some (.struct #[f0, f1, f2, f3, f4]) ∧
    (f0.type, f0.offset, f1.type, f1.offset, f2.type, f2.offset, f3.type, f3.offset, f4.type, f4.offset) = (3, 0, 32, 1, 3, 2, 4, 3, 4, 4) := ⟨_, _, _, _, _, Try.underlying39, rfl⟩
theorem Try.cellsInt : Try.prog.cellsOf 3 = 1 := by kernel_rfl
theorem Try.cellsBool : Try.prog.cellsOf 4 = 1 := by kernel_rfl
theorem Try.cellsByte : Try.prog.cellsOf 5 = 1 := by kernel_rfl
theorem Try.cellsBytes : Try.prog.cellsOf 32 = 1 := by kernel_rfl
theorem Try.cellsSeg : Try.prog.cellsOf 39 = 5 := by kernel_rfl
theorem Try.cellsSegs : Try.prog.cellsOf 27 = 1 := by kernel_rfl
theorem Try.cellsImg : Try.prog.cellsOf 29 = 2 := by kernel_rfl

section
variable {H : Type} {enc : TypeId × Value → H} {w : World}

theorem opens_bytes : Opens enc Try.prog w 32 (SliceIn.cells (α := UInt8)) (SliceIn.Ok w (fun b : UInt8 => [.int .u8 ((b.toNat : Nat) : Int)]) (fun _ => True) 1) :=
  opens_slice Try.underlying32 Try.cellsByte (by decide) (fun _ => rfl) (opens_byte Try.underlying5)

theorem opens_seg : Opens enc Try.prog w 39 Seg.cells (fun s => Reads w w.heap.size 1 s.ba s.Bytes.length (bytesV s.Bytes) ∧ s.Bytes.length ≤ 9223372036854775807) := fun fuel cs x h => by
  obtain ⟨xs, n, _, _, hl, hxl, hf⟩ := DataW.trod_struct Try.underlying39 h
  rw [Try.cellsSeg] at hl
  match cs, hl with
  | [v0, v1, v2, v3, v4], _ =>
    match xs, hxl with
    | [y0, y1, y2, y3, y4], _ =>
      obtain ⟨a, ea, _⟩ := opens_int Try.underlying3 n _ y0 (by simpa [Try.cellsInt] using hf 0 _ rfl)
      obtain ⟨b, eb, ob⟩ := opens_bytes (enc := enc) (w := w) n _ y1 (by simpa [Try.cellsBytes] using hf 1 _ rfl)
      obtain ⟨c, ec, _⟩ := opens_int Try.underlying3 n _ y2 (by simpa [Try.cellsInt] using hf 2 _ rfl)
      obtain ⟨d, ed, _⟩ := opens_bool Try.underlying4 n _ y3 (by simpa [Try.cellsBool] using hf 3 _ rfl)
      obtain ⟨e, ee, _⟩ := opens_bool Try.underlying4 n _ y4 (by simpa [Try.cellsBool] using hf 4 _ rfl)
      simp only [List.cons.injEq, and_true, SliceIn.cells] at ea eb ec ed ee
      subst ea eb ec ed ee
      exact ⟨⟨a, b.l, c, d, e, b.A, b.c⟩, rfl, by rw [bytesV_flat]; exact ob.reads, Nat.le_trans ob.cap ob.max⟩

theorem open_image {r : Reach} {b0 : Nat} {v : Value} {d : DataW H} {p : List MemPlace} (hv : Value.okWide Try.prog w r b0 29 v) (h : DataW.Trod enc Try.prog w 0 (fun _ => true) true 29 v d p) :
    ∃ (entry : Int) (A : Option Addr) (segs : List Seg) (c : Nat), v = .agg #[.int .i64 entry, .slice A segs.length c] ∧ SegsAt w w.heap.size A segs := by
  obtain ⟨v0, v1, y0, y1, n, rfl, _, _, h0, h1⟩ := open_agg2 Try.underlying29 (by kernel_rfl) Try.cellsImg hv h
  obtain ⟨a, ea, _⟩ := opens_int Try.underlying3 n _ y0 h0
  obtain ⟨s, es, os⟩ := opens_slice Try.underlying27 Try.cellsSeg (by decide) (fun _ => rfl) opens_seg n _ y1 h1
  simp only [List.cons.injEq, and_true, SliceIn.cells] at ea es
  subst ea es
  exact ⟨a, s.A, s.l, s.c, rfl, os.reads, fun x hx => (os.each x hx).1, Nat.le_trans os.cap os.max, fun x hx => (os.each x hx).2⟩
theorem open_bytesArg {r : Reach} {b0 : Nat} {v : Value} {d : DataW H} {p : List MemPlace} (hv : Value.okWide Try.prog w r b0 32 v) (h : DataW.Trod enc Try.prog w 0 (fun _ => true) true 32 v d p) :
    ∃ (A : Option Addr) (l : List UInt8) (c : Nat), v = .slice A l.length c ∧ Reads w w.heap.size 1 A l.length (bytesV l) ∧ l.length ≤ 9223372036854775807 := by
  obtain ⟨a, len, cap, rfl⟩ := okWide_slice Try.underlying32 hv
  obtain ⟨fuel, hf⟩ := h
  obtain ⟨s, es, os⟩ := opens_bytes fuel _ _ hf
  simp [Value.cells, SliceIn.cells] at es
  obtain ⟨rfl, rfl, rfl⟩ := es
  exact ⟨s.A, s.l, s.c, rfl, by rw [bytesV_flat]; exact os.reads, Nat.le_trans os.cap os.max⟩
end
end Go.Proofs.Ytjpkjcmphjnbhaa
