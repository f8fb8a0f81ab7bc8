/- LkP: texts that belong together. -/
import Derived.KernelRfl
import Derived.Lib.SmallJoins
import Derived.ProofKit
import Derived.SizedLaws
import Derived.Test.YtkfmkemjoddinaaBA
import Derived.Test.YtkfmkemjoddinaaChecked
import Derived.Test.YtkfmkemjoddinaaIndexS
set_option linter.all false
/- Slices among a row's arguments, opened. -/
namespace Go.Proofs.Ytkfmkemjoddinaa
open Go.RowKit Go.ChangeShapes Go.WideShapes Go.Deep Go.Joins

section
variable {H : Type} {enc : TypeId × Value → H} {P : Program} {w : World}
theorem open_sliceArg {α : Type} {cells : α → List Value} {ok : α → Prop} {k : Nat} {t e : TypeId} {r : Reach} {b0 : Nat} {v : Value} {d : DataW H} {p : List MemPlace} (ht : P.underlying t = some (.slice e))
    (ho : Opens enc P w t (SliceIn.cells (α := α)) (SliceIn.Ok w cells ok k)) (hv : Value.okWide P w r b0 t v) (h : DataW.Trod enc P w 0 (fun _ => true) true t v d p) :
    ∃ s : SliceIn α, v = .slice s.A s.l.length s.c ∧ SliceIn.Ok w cells ok k s ∧ (s.l.length = 0 ∨ ∃ elems spare, d = .slice elems spare ∧ elems.length + spare.length = s.c) := by
  obtain ⟨a, len, cap, rfl⟩ := okWide_slice ht hv
  obtain ⟨fuel, hf⟩ := h
  obtain ⟨s, es, os⟩ := ho fuel _ _ hf
  simp [Value.cells, SliceIn.cells] at es
  obtain ⟨rfl, rfl, rfl⟩ := es
  refine ⟨s, rfl, os, ?_⟩
  rcases open_slice ht hf with ⟨h0, _⟩ | ⟨a, len, cap, m, n, D, Pl, h0, _, _, _, hm, hd, _⟩
  · simp [Value.cells] at h0
    exact .inl (by rw [h0.2.1]; rfl)
  · simp [Value.cells] at h0
    rw [if_pos rfl] at hm
    cases hd
    exact .inr ⟨_, _, rfl, by have := os.cap; simp; omega⟩

theorem opens_ints : Opens enc Try.prog w 26 (SliceIn.cells (α := Int)) (SliceIn.Ok w (fun n : Int => [.int .i64 n]) (fun n => (Lit.int .i64 n).wf = true) 1) :=
  opens_slice Try.underlying26 (by kernel_rfl) (by decide) (fun _ => rfl) (opens_int Try.underlying3)
theorem ints_reads {s : SliceIn Int} {ok : Int → Prop} (h : SliceIn.Ok w (fun n : Int => [.int .i64 n]) ok 1 s) : Reads w w.heap.size 1 s.A s.l.length (intsV s.l) := by
  rw [intsV_flat]; exact h.reads
theorem ints_each {s : SliceIn Int} (h : SliceIn.Ok w (fun n : Int => [.int .i64 n]) (fun n => (Lit.int .i64 n).wf = true) 1 s) : ∀ x ∈ s.l, -9223372036854775808 ≤ x ∧ x ≤ 9223372036854775807 := fun x hx => bounds_i64 (h.each x hx)
end
end Go.Proofs.Ytkfmkemjoddinaa

/- Parts among a row's arguments, opened. -/
namespace Go.Proofs.Ytkfmkemjoddinaa
open Go.RowKit Go.ChangeShapes Go.WideShapes Go.Deep Go.Joins
set_option maxRecDepth 100000

theorem bytesV_flat (l : List UInt8) : bytesV l = l.flatMap (fun b : UInt8 => [.int .u8 ((b.toNat : Nat) : Int)]) := by
  induction l with
  | nil => rfl
  | cons b l ih => rw [List.flatMap_cons, ← ih]; rfl

theorem Try.relFields : ∃ f0 f1 f2 f3 f4 : Field, Try.prog.underlying 88 = some (.struct #[f0, f1, f2, f3, f4]) ∧
    (f0.type, f0.offset, f1.type, f1.offset, f2.type, f2.offset, f3.type, f3.offset, f4.type, f4.offset) = (3, 0, 3, 1, 9, 2, 3, 3, 3, 4) := ⟨_, _, _, _, _, Try.underlying88, rfl⟩
theorem Try.cellsInt : Try.prog.cellsOf 3 = 1 := by kernel_rfl
theorem Try.cellsStr : Try.prog.cellsOf 9 = 1 := by kernel_rfl
theorem Try.cellsByte : Try.prog.cellsOf 5 = 1 := by kernel_rfl
theorem Try.cellsBytes : Try.prog.cellsOf 81 = 1 := by kernel_rfl
theorem Try.cellsRel : Try.prog.cellsOf 88 = 5 := by kernel_rfl
theorem Try.cellsRels : Try.prog.cellsOf 82 = 1 := by kernel_rfl
theorem Try.cellsFrag : Try.prog.cellsOf 84 = 6 := by kernel_rfl
theorem Try.cellsFrags : Try.prog.cellsOf 41 = 1 := by kernel_rfl
theorem Try.cellsDef : Try.prog.cellsOf 79 = 6 := by kernel_rfl
theorem Try.cellsDefs : Try.prog.cellsOf 42 = 1 := by kernel_rfl
theorem Try.cellsPart : Try.prog.cellsOf 44 = 2 := by kernel_rfl

section
variable {H : Type} {enc : TypeId × Value → H} {w : World}

theorem opens_bytes : Opens enc Try.prog w 81 (SliceIn.cells (α := UInt8)) (SliceIn.Ok w (fun b : UInt8 => [.int .u8 ((b.toNat : Nat) : Int)]) (fun _ => True) 1) :=
  opens_slice Try.underlying81 Try.cellsByte (by decide) (fun _ => rfl) (opens_byte Try.underlying5)

theorem opens_rel : Opens enc Try.prog w 88 Rel.cells (fun _ => True) := fun fuel cs x h => by
  obtain ⟨xs, n, _, _, hl, hxl, hf⟩ := DataW.trod_struct Try.underlying88 h
  rw [Try.cellsRel] at hl
  match cs, hl with
  | [v0, v1, v2, v3, v4], _ =>
    match xs, hxl with
    | [y0, y1, y2, y3, y4], _ =>
      obtain ⟨a, ea, _⟩ := opens_int Try.underlying3 n _ y0 (by simpa [Try.cellsInt] using hf 0 _ rfl)
      obtain ⟨b, eb, _⟩ := opens_int Try.underlying3 n _ y1 (by simpa [Try.cellsInt] using hf 1 _ rfl)
      obtain ⟨c, ec, _⟩ := opens_string Try.underlying9 n _ y2 (by simpa [Try.cellsStr] using hf 2 _ rfl)
      obtain ⟨d, ed, _⟩ := opens_int Try.underlying3 n _ y3 (by simpa [Try.cellsInt] using hf 3 _ rfl)
      obtain ⟨e, ee, _⟩ := opens_int Try.underlying3 n _ y4 (by simpa [Try.cellsInt] using hf 4 _ rfl)
      simp only [List.cons.injEq, and_true] at ea eb ec ed ee
      subst ea eb ec ed ee
      exact ⟨⟨a, b, c, d, e⟩, rfl, trivial⟩
theorem opens_def : Opens enc Try.prog w 79 Df.cells (fun _ => True) := fun fuel cs x h => by
  obtain ⟨xs, n, _, _, hl, hxl, hf⟩ := DataW.trod_struct Try.underlying79 h
  rw [Try.cellsDef] at hl
  match cs, hl with
  | [v0, v1, v2, v3, v4, v5], _ =>
    match xs, hxl with
    | [y0, y1, y2, y3, y4, y5], _ =>
      obtain ⟨a, ea, _⟩ := opens_string Try.underlying9 n _ y0 (by simpa [Try.cellsStr] using hf 0 _ rfl)
      obtain ⟨b, eb, _⟩ := opens_int Try.underlying3 n _ y1 (by simpa [Try.cellsInt] using hf 1 _ rfl)
      obtain ⟨c, ec, _⟩ := opens_int Try.underlying3 n _ y2 (by simpa [Try.cellsInt] using hf 2 _ rfl)
      obtain ⟨d, ed, _⟩ := opens_int Try.underlying3 n _ y3 (by simpa [Try.cellsInt] using hf 3 _ rfl)
      obtain ⟨e, ee, _⟩ := opens_int Try.underlying3 n _ y4 (by simpa [Try.cellsInt] using hf 4 _ rfl)
      obtain ⟨f, ef, _⟩ := opens_int Try.underlying3 n _ y5 (by simpa [Try.cellsInt] using hf 5 _ rfl)
      simp only [List.cons.injEq, and_true] at ea eb ec ed ee ef
      subst ea eb ec ed ee ef
      exact ⟨⟨a, b, c, d, e, f⟩, rfl, trivial⟩
theorem opens_frag : Opens enc Try.prog w 84 FgM.cells (fun x => x.Good w w.heap.size) := fun fuel cs x h => by
  obtain ⟨xs, n, _, _, hl, hxl, hf⟩ := DataW.trod_struct Try.underlying84 h
  rw [Try.cellsFrag] at hl
  match cs, hl with
  | [v0, v1, v2, v3, v4, v5], _ =>
    match xs, hxl with
    | [y0, y1, y2, y3, y4, y5], _ =>
      obtain ⟨a, ea, _⟩ := opens_int Try.underlying3 n _ y0 (by simpa [Try.cellsInt] using hf 0 _ rfl)
      obtain ⟨b, eb, _⟩ := opens_int Try.underlying3 n _ y1 (by simpa [Try.cellsInt] using hf 1 _ rfl)
      obtain ⟨c, ec, _⟩ := opens_string Try.underlying9 n _ y2 (by simpa [Try.cellsStr] using hf 2 _ rfl)
      obtain ⟨d, ed, od⟩ := opens_bytes (enc := enc) (w := w) n _ y3 (by simpa [Try.cellsBytes] using hf 3 _ rfl)
      obtain ⟨e, ee, _⟩ := opens_int Try.underlying3 n _ y4 (by simpa [Try.cellsInt] using hf 4 _ rfl)
      obtain ⟨f, ef, of⟩ := opens_slice (enc := enc) (w := w) Try.underlying82 Try.cellsRel (by decide) (fun _ => rfl) opens_rel n _ y5 (by simpa [Try.cellsRels] using hf 5 _ rfl)
      simp only [List.cons.injEq, and_true, SliceIn.cells] at ea eb ec ed ee ef
      subst ea eb ec ed ee ef
      exact ⟨⟨⟨a, b, c, d.l, e, f.l⟩, d.A, d.c, f.A, f.c⟩, rfl, by show Reads _ _ _ _ _ (bytesV d.l); rw [bytesV_flat]; exact od.reads, of.reads, Nat.le_trans od.cap od.max, Nat.le_trans of.cap of.max⟩
theorem opens_part : Opens enc Try.prog w 44 PtM.cells (fun p => p.At w w.heap.size) := fun fuel cs x h => by
  obtain ⟨xs, n, _, _, hl, hxl, hf⟩ := DataW.trod_struct Try.underlying44 h
  rw [Try.cellsPart] at hl
  match cs, hl with
  | [v0, v1], _ =>
    match xs, hxl with
    | [y0, y1], _ =>
      obtain ⟨a, ea, oa⟩ := opens_slice (enc := enc) (w := w) Try.underlying41 Try.cellsFrag (by decide) (fun _ => rfl) opens_frag n _ y0 (by simpa [Try.cellsFrags] using hf 0 _ rfl)
      obtain ⟨b, eb, ob⟩ := opens_slice (enc := enc) (w := w) Try.underlying42 Try.cellsDef (by decide) (fun _ => rfl) opens_def n _ y1 (by simpa [Try.cellsDefs] using hf 1 _ rfl)
      simp only [List.cons.injEq, and_true, SliceIn.cells] at ea eb
      subst ea eb
      exact ⟨⟨a.l, b.l, a.A, a.c, b.A, b.c⟩, rfl, oa.reads, oa.each, ob.reads, Nat.le_trans oa.cap oa.max, Nat.le_trans ob.cap ob.max⟩
theorem opens_parts : Opens enc Try.prog w 22 (SliceIn.cells (α := PtM)) (SliceIn.Ok w PtM.cells (fun p => p.At w w.heap.size) 2) :=
  opens_slice Try.underlying22 Try.cellsPart (by decide) (fun _ => rfl) opens_part
theorem open_partArg {r : Reach} {b0 : Nat} {v : Value} {d : DataW H} {p : List MemPlace} (hv : Value.okWide Try.prog w r b0 44 v) (h : DataW.Trod enc Try.prog w 0 (fun _ => true) true 44 v d p) :
    ∃ q : PtM, v = .agg #[.slice q.fa q.frs.length q.fc, .slice q.da q.dfs.length q.dc] ∧ q.At w w.heap.size := by
  obtain ⟨v0, v1, y0, y1, n, rfl, _, _, h0, h1⟩ := open_agg2 Try.underlying44 (by kernel_rfl) Try.cellsPart hv h
  obtain ⟨a, ea, oa⟩ := opens_slice (enc := enc) (w := w) Try.underlying41 Try.cellsFrag (by decide) (fun _ => rfl) opens_frag n _ y0 h0
  obtain ⟨b, eb, ob⟩ := opens_slice (enc := enc) (w := w) Try.underlying42 Try.cellsDef (by decide) (fun _ => rfl) opens_def n _ y1 h1
  simp only [List.cons.injEq, and_true, SliceIn.cells] at ea eb
  subst ea eb
  exact ⟨⟨a.l, b.l, a.A, a.c, b.A, b.c⟩, rfl, oa.reads, oa.each, ob.reads, Nat.le_trans oa.cap oa.max, Nat.le_trans ob.cap ob.max⟩
theorem open_partArgC {r : Reach} {b0 : Nat} {v : Value} {d : DataW H} {p : List MemPlace} (hv : Value.okWide Try.prog w r b0 44 v) (h : DataW.Trod enc Try.prog w 0 (fun _ => true) true 44 v d p) :
    ∃ q : PtM, v = .agg #[.slice q.fa q.frs.length q.fc, .slice q.da q.dfs.length q.dc] ∧ q.At w w.heap.size ∧ q.frs.length ≤ q.fc := by
  obtain ⟨v0, v1, y0, y1, n, rfl, _, _, h0, h1⟩ := open_agg2 Try.underlying44 (by kernel_rfl) Try.cellsPart hv h
  obtain ⟨a, ea, oa⟩ := opens_slice (enc := enc) (w := w) Try.underlying41 Try.cellsFrag (by decide) (fun _ => rfl) opens_frag n _ y0 h0
  obtain ⟨b, eb, ob⟩ := opens_slice (enc := enc) (w := w) Try.underlying42 Try.cellsDef (by decide) (fun _ => rfl) opens_def n _ y1 h1
  simp only [List.cons.injEq, and_true, SliceIn.cells] at ea eb
  subst ea eb
  exact ⟨⟨a.l, b.l, a.A, a.c, b.A, b.c⟩, rfl, ⟨oa.reads, oa.each, ob.reads, Nat.le_trans oa.cap oa.max, Nat.le_trans ob.cap ob.max⟩, oa.cap⟩
end
end Go.Proofs.Ytkfmkemjoddinaa
