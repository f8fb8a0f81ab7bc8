/- LkP: texts that belong together. -/
import Derived.KernelRfl
import Derived.Lib.SmallJoins
import Derived.ProofKit
import Derived.SizedLaws
import Derived.Test.YtokiekachlmigaaDoorBA
import Derived.Test.YtokiekachlmigaaDoorChecked
import Derived.Test.YtokiekachlmigaaDoorIndexS
set_option linter.all false
/- Slices among a row's arguments, opened. -/
namespace Go.Proofs.YtokiekachlmigaaDoor
open Go.RowKit Go.ChangeShapes Go.WideShapes Go.Deep Go.Joins

section
variable {H : Type} {enc : TypeId × Value → H} {P : Program} {w : World}
theorem open_sliceArg {α : Type} {cells : α → List Value} {ok : α → Prop} {k : Nat} {t e : TypeId} {r : Reach} {b0 : Nat} {v : Value} {d : DataW H} {p : List MemPlace} (ht : P.underlying t = some (.slice e))
    (ho : Opens enc P w t (SliceIn.cells (α := α)) (SliceIn.Ok w cells ok k)) (hv : Value.okWide P w r b0 t v) (h : DataW.Trod enc P w 0 (fun _ => true) true t v d p) :
    ∃ s : SliceIn α, v = .slice s.A s.l.length s.c ∧ SliceIn.Ok w cells ok k s ∧ (s.l.length = 0 ∨ ∃ elems spare, d = .slice elems spare ∧ elems.length + spare.length = s.c) := by
  obtain ⟨a, len, cap, rfl⟩ := okWide_slice ht hv
  obtain ⟨fuel, hf⟩ := h
  obtain ⟨s, es, os⟩ := ho fuel _ _ hf
  simp [Value.cells, SliceIn.cells] at es
  obtain ⟨rfl, rfl, rfl⟩ := es
  refine ⟨s, rfl, os, ?_⟩
  rcases open_slice ht hf with ⟨h0, _⟩ | ⟨a, len, cap, m, n, D, Pl, h0, _, _, _, hm, hd, _⟩
  · simp [Value.cells] at h0
    exact .inl (by rw [h0.2.1]; rfl)
  · simp [Value.cells] at h0
    rw [if_pos rfl] at hm
    cases hd
    exact .inr ⟨_, _, rfl, by have := os.cap; simp; omega⟩

theorem opens_ints : Opens enc Tryd.prog w 47 (SliceIn.cells (α := Int)) (SliceIn.Ok w (fun n : Int => [.int .i64 n]) (fun n => (Lit.int .i64 n).wf = true) 1) :=
  opens_slice Tryd.underlying47 (by kernel_rfl) (by decide) (fun _ => rfl) (opens_int Tryd.underlying3)
theorem ints_reads {s : SliceIn Int} {ok : Int → Prop} (h : SliceIn.Ok w (fun n : Int => [.int .i64 n]) ok 1 s) : Reads w w.heap.size 1 s.A s.l.length (intsV s.l) := by
  rw [intsV_flat]; exact h.reads
theorem ints_each {s : SliceIn Int} (h : SliceIn.Ok w (fun n : Int => [.int .i64 n]) (fun n => (Lit.int .i64 n).wf = true) 1 s) : ∀ x ∈ s.l, -9223372036854775808 ≤ x ∧ x ≤ 9223372036854775807 := fun x hx => bounds_i64 (h.each x hx)
end
end Go.Proofs.YtokiekachlmigaaDoor

/- Parts among a row's arguments, opened. -/
namespace Go.Proofs.YtokiekachlmigaaDoor
open Go.RowKit Go.ChangeShapes Go.WideShapes Go.Deep Go.Joins
set_option maxRecDepth 100000

theorem bytesV_flat (l : List UInt8) : bytesV l = l.flatMap (fun b : UInt8 => [.int .u8 ((b.toNat : Nat) : Int)]) := by
  induction l with
  | nil => rfl
  | cons b l ih => rw [List.flatMap_cons, ← ih]; rfl

theorem Tryd.relFields : ∃ f0 f1 f2 f3 f4 : Field, Tryd.prog.underlying 94 = some (.struct #[f0, f1, f2, f3, f4]) ∧
    (f0.type, f0.offset, f1.type, f1.offset, f2.type, f2.offset, f3.type, f3.offset, f4.type, f4.offset) = (3, 0, 3, 1, 9, 2, 3, 3, 3, 4) := ⟨_, _, _, _, _, Tryd.underlying94, rfl⟩
theorem Tryd.cellsInt : Tryd.prog.cellsOf 3 = 1 := by kernel_rfl
theorem Tryd.cellsStr : Tryd.prog.cellsOf 9 = 1 := by kernel_rfl
theorem Tryd.cellsByte : Tryd.prog.cellsOf 5 = 1 := by kernel_rfl
theorem Tryd.cellsBytes : Tryd.prog.cellsOf 89 = 1 := by kernel_rfl
theorem Tryd.cellsRel : Tryd.prog.cellsOf 94 = 5 := by kernel_rfl
theorem Tryd.cellsRels : Tryd.prog.cellsOf 90 = 1 := by kernel_rfl
theorem Tryd.cellsFrag : Tryd.prog.cellsOf 92 = 6 := by kernel_rfl
theorem Tryd.cellsFrags : Tryd.prog.cellsOf 22 = 1 := by kernel_rfl
theorem Tryd.cellsDef : Tryd.prog.cellsOf 31 = 6 := by kernel_rfl
theorem Tryd.cellsDefs : Tryd.prog.cellsOf 23 = 1 := by kernel_rfl
theorem Tryd.cellsPart : Tryd.prog.cellsOf 25 = 2 := by kernel_rfl

section
variable {H : Type} {enc : TypeId × Value → H} {w : World}

theorem opens_bytes : Opens enc Tryd.prog w 89 (SliceIn.cells (α := UInt8)) (SliceIn.Ok w (fun b : UInt8 => [.int .u8 ((b.toNat : Nat) : Int)]) (fun _ => True) 1) :=
  opens_slice Tryd.underlying89 Tryd.cellsByte (by decide) (fun _ => rfl) (opens_byte Tryd.underlying5)

theorem opens_rel : Opens enc Tryd.prog w 94 Rel.cells (fun _ => True) := fun fuel cs x h => by
  obtain ⟨xs, n, _, _, hl, hxl, hf⟩ := DataW.trod_struct Tryd.underlying94 h
  rw [Tryd.cellsRel] at hl
  match cs, hl with
  | [v0, v1, v2, v3, v4], _ =>
    match xs, hxl with
    | [y0, y1, y2, y3, y4], _ =>
      obtain ⟨a, ea, _⟩ := opens_int Tryd.underlying3 n _ y0 (by simpa [Tryd.cellsInt] using hf 0 _ rfl)
      obtain ⟨b, eb, _⟩ := opens_int Tryd.underlying3 n _ y1 (by simpa [Tryd.cellsInt] using hf 1 _ rfl)
      obtain ⟨c, ec, _⟩ := opens_string Tryd.underlying9 n _ y2 (by simpa [Tryd.cellsStr] using hf 2 _ rfl)
      obtain ⟨d, ed, _⟩ := opens_int Tryd.underlying3 n _ y3 (by simpa [Tryd.cellsInt] using hf 3 _ rfl)
      obtain ⟨e, ee, _⟩ := opens_int Tryd.underlying3 n _ y4 (by simpa [Tryd.cellsInt] using hf 4 _ rfl)
      simp only [List.cons.injEq, and_true] at ea eb ec ed ee
      subst ea eb ec ed ee
      exact ⟨⟨a, b, c, d, e⟩, rfl, trivial⟩
theorem opens_def : Opens enc Tryd.prog w 31 Df.cells (fun _ => True) := fun fuel cs x h => by
  obtain ⟨xs, n, _, _, hl, hxl, hf⟩ := DataW.trod_struct Tryd.underlying31 h
  rw [Tryd.cellsDef] at hl
  match cs, hl with
  | [v0, v1, v2, v3, v4, v5], _ =>
    match xs, hxl with
    | [y0, y1, y2, y3, y4, y5], _ =>
      obtain ⟨a, ea, _⟩ := opens_string Tryd.underlying9 n _ y0 (by simpa [Tryd.cellsStr] using hf 0 _ rfl)
      obtain ⟨b, eb, _⟩ := opens_int Tryd.underlying3 n _ y1 (by simpa [Tryd.cellsInt] using hf 1 _ rfl)
      obtain ⟨c, ec, _⟩ := opens_int Tryd.underlying3 n _ y2 (by simpa [Tryd.cellsInt] using hf 2 _ rfl)
      obtain ⟨d, ed, _⟩ := opens_int Tryd.underlying3 n _ y3 (by simpa [Tryd.cellsInt] using hf 3 _ rfl)
      obtain ⟨e, ee, _⟩ := opens_int Tryd.underlying3 n _ y4 (by simpa [Tryd.cellsInt] using hf 4 _ rfl)
      obtain ⟨f, ef, _⟩ := opens_int Tryd.underlying3 n _ y5 (by simpa [Tryd.cellsInt] using hf 5 _ rfl)
      simp only [List.cons.injEq, and_true] at ea eb ec ed ee ef
      subst ea eb ec ed ee ef
      exact ⟨⟨a, b, c, d, e, f⟩, rfl, trivial⟩
theorem opens_frag : Opens enc Tryd.prog w 92 FgM.cells (fun x => x.Good w w.heap.size) := fun fuel cs x h => by
  obtain ⟨xs, n, _, _, hl, hxl, hf⟩ := DataW.trod_struct Tryd.underlying92 h
  rw [Tryd.cellsFrag] at hl
  match cs, hl with
  | [v0, v1, v2, v3, v4, v5], _ =>
    match xs, hxl with
    | [y0, y1, y2, y3, y4, y5], _ =>
      obtain ⟨a, ea, _⟩ := opens_int Tryd.underlying3 n _ y0 (by simpa [Tryd.cellsInt] using hf 0 _ rfl)
      obtain ⟨b, eb, _⟩ := opens_int Tryd.underlying3 n _ y1 (by simpa [Tryd.cellsInt] using hf 1 _ rfl)
      obtain ⟨c, ec, _⟩ := opens_string Tryd.underlying9 n _ y2 (by simpa [Tryd.cellsStr] using hf 2 _ rfl)
      obtain ⟨d, ed, od⟩ := opens_bytes (enc := enc) (w := w) n _ y3 (by simpa [Tryd.cellsBytes] using hf 3 _ rfl)
      obtain ⟨e, ee, _⟩ := opens_int Tryd.underlying3 n _ y4 (by simpa [Tryd.cellsInt] using hf 4 _ rfl)
      obtain ⟨f, ef, of⟩ := opens_slice (enc := enc) (w := w) Tryd.underlying90 Tryd.cellsRel (by decide) (fun _ => rfl) opens_rel n _ y5 (by simpa [Tryd.cellsRels] using hf 5 _ rfl)
      simp only [List.cons.injEq, and_true, SliceIn.cells] at ea eb ec ed ee ef
      subst ea eb ec ed ee ef
      exact ⟨⟨⟨a, b, c, d.l, e, f.l⟩, d.A, d.c, f.A, f.c⟩, rfl, by show Reads _ _ _ _ _ (bytesV d.l); rw [bytesV_flat]; exact od.reads, of.reads, Nat.le_trans od.cap od.max, Nat.le_trans of.cap of.max⟩
theorem opens_part : Opens enc Tryd.prog w 25 PtM.cells (fun p => p.At w w.heap.size) := fun fuel cs x h => by
  obtain ⟨xs, n, _, _, hl, hxl, hf⟩ := DataW.trod_struct Tryd.underlying25 h
  rw [Tryd.cellsPart] at hl
  match cs, hl with
  | [v0, v1], _ =>
    match xs, hxl with
    | [y0, y1], _ =>
      obtain ⟨a, ea, oa⟩ := opens_slice (enc := enc) (w := w) Tryd.underlying22 Tryd.cellsFrag (by decide) (fun _ => rfl) opens_frag n _ y0 (by simpa [Tryd.cellsFrags] using hf 0 _ rfl)
      obtain ⟨b, eb, ob⟩ := opens_slice (enc := enc) (w := w) Tryd.underlying23 Tryd.cellsDef (by decide) (fun _ => rfl) opens_def n _ y1 (by simpa [Tryd.cellsDefs] using hf 1 _ rfl)
      simp only [List.cons.injEq, and_true, SliceIn.cells] at ea eb
      subst ea eb
      exact ⟨⟨a.l, b.l, a.A, a.c, b.A, b.c⟩, rfl, oa.reads, oa.each, ob.reads, Nat.le_trans oa.cap oa.max, Nat.le_trans ob.cap ob.max⟩
theorem opens_parts : Opens enc Tryd.prog w 58 (SliceIn.cells (α := PtM)) (SliceIn.Ok w PtM.cells (fun p => p.At w w.heap.size) 2) :=
  opens_slice Tryd.underlying58 Tryd.cellsPart (by decide) (fun _ => rfl) opens_part
theorem open_partArg {r : Reach} {b0 : Nat} {v : Value} {d : DataW H} {p : List MemPlace} (hv : Value.okWide Tryd.prog w r b0 25 v) (h : DataW.Trod enc Tryd.prog w 0 (fun _ => true) true 25 v d p) :
    ∃ q : PtM, v = .agg #[.slice q.fa q.frs.length q.fc, .slice q.da q.dfs.length q.dc] ∧ q.At w w.heap.size := by
  obtain ⟨v0, v1, y0, y1, n, rfl, _, _, h0, h1⟩ := open_agg2 Tryd.underlying25 (by kernel_rfl) Tryd.cellsPart hv h
  obtain ⟨a, ea, oa⟩ := opens_slice (enc := enc) (w := w) Tryd.underlying22 Tryd.cellsFrag (by decide) (fun _ => rfl) opens_frag n _ y0 h0
  obtain ⟨b, eb, ob⟩ := opens_slice (enc := enc) (w := w) Tryd.underlying23 Tryd.cellsDef (by decide) (fun _ => rfl) opens_def n _ y1 h1
  simp only [List.cons.injEq, and_true, SliceIn.cells] at ea eb
  subst ea eb
  exact ⟨⟨a.l, b.l, a.A, a.c, b.A, b.c⟩, rfl, oa.reads, oa.each, ob.reads, Nat.le_trans oa.cap oa.max, Nat.le_trans ob.cap ob.max⟩
theorem open_partArgC {r : Reach} {b0 : Nat} {v : Value} {d : DataW H} {p : List MemPlace} (hv : Value.okWide Tryd.prog w r b0 25 v) (h : DataW.Trod enc Tryd.prog w 0 (fun _ => true) true 25 v d p) :
    ∃ q : PtM, v = .agg #[.slice q.fa q.frs.length q.fc, .slice q.da q.dfs.length q.dc] ∧ q.At w w.heap.size ∧ q.frs.length ≤ q.fc := by
  obtain ⟨v0, v1, y0, y1, n, rfl, _, _, h0, h1⟩ := open_agg2 Tryd.underlying25 (by kernel_rfl) Tryd.cellsPart hv h
  obtain ⟨a, ea, oa⟩ := opens_slice (enc := enc) (w := w) Tryd.underlying22 Tryd.cellsFrag (by decide) (fun _ => rfl) opens_frag n _ y0 h0
  obtain ⟨b, eb, ob⟩ := opens_slice (enc := enc) (w := w) Tryd.underlying23 Tryd.cellsDef (by decide) (fun _ => rfl) opens_def n _ y1 h1
  simp only [List.cons.injEq, and_true, SliceIn.cells] at ea eb
  subst ea eb
  exact ⟨⟨a.l, b.l, a.A, a.c, b.A, b.c⟩, rfl, ⟨oa.reads, oa.each, ob.reads, Nat.le_trans oa.cap oa.max, Nat.le_trans ob.cap ob.max⟩, oa.cap⟩
end
end Go.Proofs.YtokiekachlmigaaDoor
