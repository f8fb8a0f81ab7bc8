/- ropewalklaw.LayoutApart: for any part and any base the call returns true, and each argument reads behind the call as it read before. No condition. -/
import Derived.Test.YtbonpilpmjghbaaOpen
import Derived.Test.YtbonpilpmjghbaaMemT
import Derived.Test.YtbonpilpmjghbaaChecked
import Derived.ProofKit
import Derived.Lib.SmallJoins
import Derived.KernelRfl
import Derived.SizedLaws
import Derived.Test.YtbonpilpmjghbaaPartD
import Derived.Test.YtbonpilpmjghbaaIndexS
import Derived.Test.YtbonpilpmjghbaaRows
import Derived.Test.YtbonpilpmjghbaaLayoutApartW
import Derived.ChangeOld
import Derived.ShutString
import Derived.JoinedCond
set_option linter.all false
/- Slices among a row's arguments, opened. -/
namespace Go.Proofs.Ytbonpilpmjghbaa
open Go.RowKit Go.ChangeShapes Go.WideShapes Go.Deep Go.Joins

section
variable {H : Type} {enc : TypeId × Value → H} {P : Program} {w : World}
theorem open_sliceArg {α : Type} {cells : α → List Value} {ok : α → Prop} {k : Nat} {t e : TypeId} {r : Reach} {b0 : Nat} {v : Value} {d : DataW H} {p : List MemPlace} (ht : P.underlying t = some (.slice e))
    (ho : Opens enc P w t (SliceIn.cells (α := α)) (SliceIn.Ok w cells ok k)) (hv : Value.okWide P w r b0 t v) (h : DataW.Trod enc P w 0 (fun _ => true) true t v d p) :
    ∃ s : SliceIn α, v = .slice s.A s.l.length s.c ∧ SliceIn.Ok w cells ok k s ∧ (s.l.length = 0 ∨ ∃ elems spare, d = .slice elems spare ∧ elems.length + spare.length = s.c) := by
  obtain ⟨a, len, cap, rfl⟩ := okWide_slice ht hv
  obtain ⟨fuel, hf⟩ := h
  obtain ⟨s, es, os⟩ := ho fuel _ _ hf
  simp [Value.cells, SliceIn.cells] at es
  obtain ⟨rfl, rfl, rfl⟩ := es
  refine ⟨s, rfl, os, ?_⟩
  rcases open_slice ht hf with ⟨h0, _⟩ | ⟨a, len, cap, m, n, D, Pl, h0, _, _, _, hm, hd, _⟩
  · simp [Value.cells] at h0
    exact .inl (by rw [h0.2.1]; rfl)
  · simp [Value.cells] at h0
    rw [if_pos rfl] at hm
    cases hd
    exact .inr ⟨_, _, rfl, by have := os.cap; simp; omega⟩

theorem opens_ints : Opens enc Try.prog w 26 (SliceIn.cells (α := Int)) (SliceIn.Ok w (fun n : Int => [.int .i64 n]) (fun n => (Lit.int .i64 n).wf = true) 1) :=
  opens_slice Try.underlying26 (by kernel_rfl) (by decide) (fun _ => rfl) (opens_int Try.underlying3)
theorem ints_reads {s : SliceIn Int} {ok : Int → Prop} (h : SliceIn.Ok w (fun n : Int => [.int .i64 n]) ok 1 s) : Reads w w.heap.size 1 s.A s.l.length (intsV s.l) := by
  rw [intsV_flat]; exact h.reads
theorem ints_each {s : SliceIn Int} (h : SliceIn.Ok w (fun n : Int => [.int .i64 n]) (fun n => (Lit.int .i64 n).wf = true) 1 s) : ∀ x ∈ s.l, -9223372036854775808 ≤ x ∧ x ≤ 9223372036854775807 := fun x hx => bounds_i64 (h.each x hx)
end
end Go.Proofs.Ytbonpilpmjghbaa

/- Parts among a row's arguments, opened. -/
namespace Go.Proofs.Ytbonpilpmjghbaa
open Go.RowKit Go.ChangeShapes Go.WideShapes Go.Deep Go.Joins
set_option maxRecDepth 100000

theorem bytesV_flat (l : List UInt8) : bytesV l = l.flatMap (fun b : UInt8 => [.int .u8 ((b.toNat : Nat) : Int)]) := by
  induction l with
  | nil => rfl
  | cons b l ih => rw [List.flatMap_cons, ← ih]; rfl

theorem Try.relFields : ∃ f0 f1 f2 f3 f4 : Field, Try.prog.underlying 121 = some (.struct #[f0, f1, f2, f3, f4]) ∧
    (f0.type, f0.offset, f1.type, f1.offset, f2.type, f2.offset, f3.type, f3.offset, f4.type, f4.offset) = (3, 0, 3, 1, 9, 2, 3, 3, 3, 4) := ⟨_, _, _, _, _, Try.underlying121, rfl⟩
theorem Try.cellsInt : Try.prog.cellsOf 3 = 1 := by kernel_rfl
theorem Try.cellsStr : Try.prog.cellsOf 9 = 1 := by kernel_rfl
theorem Try.cellsByte : Try.prog.cellsOf 5 = 1 := by kernel_rfl
theorem Try.cellsBytes : Try.prog.cellsOf 70 = 1 := by kernel_rfl
theorem Try.cellsRel : Try.prog.cellsOf 121 = 5 := by kernel_rfl
theorem Try.cellsRels : Try.prog.cellsOf 71 = 1 := by kernel_rfl
theorem Try.cellsFrag : Try.prog.cellsOf 73 = 6 := by kernel_rfl
theorem Try.cellsFrags : Try.prog.cellsOf 41 = 1 := by kernel_rfl
theorem Try.cellsDef : Try.prog.cellsOf 77 = 6 := by kernel_rfl
theorem Try.cellsDefs : Try.prog.cellsOf 42 = 1 := by kernel_rfl
theorem Try.cellsPart : Try.prog.cellsOf 44 = 2 := by kernel_rfl

section
variable {H : Type} {enc : TypeId × Value → H} {w : World}

theorem opens_bytes : Opens enc Try.prog w 70 (SliceIn.cells (α := UInt8)) (SliceIn.Ok w (fun b : UInt8 => [.int .u8 ((b.toNat : Nat) : Int)]) (fun _ => True) 1) :=
  opens_slice Try.underlying70 Try.cellsByte (by decide) (fun _ => rfl) (opens_byte Try.underlying5)

theorem opens_rel : Opens enc Try.prog w 121 Rel.cells (fun _ => True) := fun fuel cs x h => by
  obtain ⟨xs, n, _, _, hl, hxl, hf⟩ := DataW.trod_struct Try.underlying121 h
  rw [Try.cellsRel] at hl
  match cs, hl with
  | [v0, v1, v2, v3, v4], _ =>
    match xs, hxl with
    | [y0, y1, y2, y3, y4], _ =>
      obtain ⟨a, ea, _⟩ := opens_int Try.underlying3 n _ y0 (by simpa [Try.cellsInt] using hf 0 _ rfl)
      obtain ⟨b, eb, _⟩ := opens_int Try.underlying3 n _ y1 (by simpa [Try.cellsInt] using hf 1 _ rfl)
      obtain ⟨c, ec, _⟩ := opens_string Try.underlying9 n _ y2 (by simpa [Try.cellsStr] using hf 2 _ rfl)
      obtain ⟨d, ed, _⟩ := opens_int Try.underlying3 n _ y3 (by simpa [Try.cellsInt] using hf 3 _ rfl)
      obtain ⟨e, ee, _⟩ := opens_int Try.underlying3 n _ y4 (by simpa [Try.cellsInt] using hf 4 _ rfl)
      simp only [List.cons.injEq, and_true] at ea eb ec ed ee
      subst ea eb ec ed ee
      exact ⟨⟨a, b, c, d, e⟩, rfl, trivial⟩
theorem opens_def : Opens enc Try.prog w 77 Df.cells (fun _ => True) := fun fuel cs x h => by
  obtain ⟨xs, n, _, _, hl, hxl, hf⟩ := DataW.trod_struct Try.underlying77 h
  rw [Try.cellsDef] at hl
  match cs, hl with
  | [v0, v1, v2, v3, v4, v5], _ =>
    match xs, hxl with
    | [y0, y1, y2, y3, y4, y5], _ =>
      obtain ⟨a, ea, _⟩ := opens_string Try.underlying9 n _ y0 (by simpa [Try.cellsStr] using hf 0 _ rfl)
      obtain ⟨b, eb, _⟩ := opens_int Try.underlying3 n _ y1 (by simpa [Try.cellsInt] using hf 1 _ rfl)
      obtain ⟨c, ec, _⟩ := opens_int Try.underlying3 n _ y2 (by simpa [Try.cellsInt] using hf 2 _ rfl)
      obtain ⟨d, ed, _⟩ := opens_int Try.underlying3 n _ y3 (by simpa [Try.cellsInt] using hf 3 _ rfl)
      obtain ⟨e, ee, _⟩ := opens_int Try.underlying3 n _ y4 (by simpa [Try.cellsInt] using hf 4 _ rfl)
      obtain ⟨f, ef, _⟩ := opens_int Try.underlying3 n _ y5 (by simpa [Try.cellsInt] using hf 5 _ rfl)
      simp only [List.cons.injEq, and_true] at ea eb ec ed ee ef
      subst ea eb ec ed ee ef
      exact ⟨⟨a, b, c, d, e, f⟩, rfl, trivial⟩
theorem opens_frag : Opens enc Try.prog w 73 FgM.cells (fun x => x.Good w w.heap.size) := fun fuel cs x h => by
  obtain ⟨xs, n, _, _, hl, hxl, hf⟩ := DataW.trod_struct Try.underlying73 h
  rw [Try.cellsFrag] at hl
  match cs, hl with
  | [v0, v1, v2, v3, v4, v5], _ =>
    match xs, hxl with
    | [y0, y1, y2, y3, y4, y5], _ =>
      obtain ⟨a, ea, _⟩ := opens_int Try.underlying3 n _ y0 (by simpa [Try.cellsInt] using hf 0 _ rfl)
      obtain ⟨b, eb, _⟩ := opens_int Try.underlying3 n _ y1 (by simpa [Try.cellsInt] using hf 1 _ rfl)
      obtain ⟨c, ec, _⟩ := opens_string Try.underlying9 n _ y2 (by simpa [Try.cellsStr] using hf 2 _ rfl)
      obtain ⟨d, ed, od⟩ := opens_bytes (enc := enc) (w := w) n _ y3 (by simpa [Try.cellsBytes] using hf 3 _ rfl)
      obtain ⟨e, ee, _⟩ := opens_int Try.underlying3 n _ y4 (by simpa [Try.cellsInt] using hf 4 _ rfl)
      obtain ⟨f, ef, of⟩ := opens_slice (enc := enc) (w := w) Try.underlying71 Try.cellsRel (by decide) (fun _ => rfl) opens_rel n _ y5 (by simpa [Try.cellsRels] using hf 5 _ rfl)
      simp only [List.cons.injEq, and_true, SliceIn.cells] at ea eb ec ed ee ef
      subst ea eb ec ed ee ef
      exact ⟨⟨⟨a, b, c, d.l, e, f.l⟩, d.A, d.c, f.A, f.c⟩, rfl, by show Reads _ _ _ _ _ (bytesV d.l); rw [bytesV_flat]; exact od.reads, of.reads, Nat.le_trans od.cap od.max, Nat.le_trans of.cap of.max⟩
theorem opens_part : Opens enc Try.prog w 44 PtM.cells (fun p => p.At w w.heap.size) := fun fuel cs x h => by
  obtain ⟨xs, n, _, _, hl, hxl, hf⟩ := DataW.trod_struct Try.underlying44 h
  rw [Try.cellsPart] at hl
  match cs, hl with
  | [v0, v1], _ =>
    match xs, hxl with
    | [y0, y1], _ =>
      obtain ⟨a, ea, oa⟩ := opens_slice (enc := enc) (w := w) Try.underlying41 Try.cellsFrag (by decide) (fun _ => rfl) opens_frag n _ y0 (by simpa [Try.cellsFrags] using hf 0 _ rfl)
      obtain ⟨b, eb, ob⟩ := opens_slice (enc := enc) (w := w) Try.underlying42 Try.cellsDef (by decide) (fun _ => rfl) opens_def n _ y1 (by simpa [Try.cellsDefs] using hf 1 _ rfl)
      simp only [List.cons.injEq, and_true, SliceIn.cells] at ea eb
      subst ea eb
      exact ⟨⟨a.l, b.l, a.A, a.c, b.A, b.c⟩, rfl, oa.reads, oa.each, ob.reads, Nat.le_trans oa.cap oa.max, Nat.le_trans ob.cap ob.max⟩
theorem opens_parts : Opens enc Try.prog w 22 (SliceIn.cells (α := PtM)) (SliceIn.Ok w PtM.cells (fun p => p.At w w.heap.size) 2) :=
  opens_slice Try.underlying22 Try.cellsPart (by decide) (fun _ => rfl) opens_part
theorem open_partArg {r : Reach} {b0 : Nat} {v : Value} {d : DataW H} {p : List MemPlace} (hv : Value.okWide Try.prog w r b0 44 v) (h : DataW.Trod enc Try.prog w 0 (fun _ => true) true 44 v d p) :
    ∃ q : PtM, v = .agg #[.slice q.fa q.frs.length q.fc, .slice q.da q.dfs.length q.dc] ∧ q.At w w.heap.size := by
  obtain ⟨v0, v1, y0, y1, n, rfl, _, _, h0, h1⟩ := open_agg2 Try.underlying44 (by kernel_rfl) Try.cellsPart hv h
  obtain ⟨a, ea, oa⟩ := opens_slice (enc := enc) (w := w) Try.underlying41 Try.cellsFrag (by decide) (fun _ => rfl) opens_frag n _ y0 h0
  obtain ⟨b, eb, ob⟩ := opens_slice (enc := enc) (w := w) Try.underlying42 Try.cellsDef (by decide) (fun _ => rfl) opens_def n _ y1 h1
  simp only [List.cons.injEq, and_true, SliceIn.cells] at ea eb
  subst ea eb
  exact ⟨⟨a.l, b.l, a.A, a.c, b.A, b.c⟩, rfl, oa.reads, oa.each, ob.reads, Nat.le_trans oa.cap oa.max, Nat.le_trans ob.cap ob.max⟩
theorem open_partArgC {r : Reach} {b0 : Nat} {v : Value} {d : DataW H} {p : List MemPlace} (hv : Value.okWide Try.prog w r b0 44 v) (h : DataW.Trod enc Try.prog w 0 (fun _ => true) true 44 v d p) :
    ∃ q : PtM, v = .agg #[.slice q.fa q.frs.length q.fc, .slice q.da q.dfs.length q.dc] ∧ q.At w w.heap.size ∧ q.frs.length ≤ q.fc := by
  obtain ⟨v0, v1, y0, y1, n, rfl, _, _, h0, h1⟩ := open_agg2 Try.underlying44 (by kernel_rfl) Try.cellsPart hv h
  obtain ⟨a, ea, oa⟩ := opens_slice (enc := enc) (w := w) Try.underlying41 Try.cellsFrag (by decide) (fun _ => rfl) opens_frag n _ y0 h0
  obtain ⟨b, eb, ob⟩ := opens_slice (enc := enc) (w := w) Try.underlying42 Try.cellsDef (by decide) (fun _ => rfl) opens_def n _ y1 h1
  simp only [List.cons.injEq, and_true, SliceIn.cells] at ea eb
  subst ea eb
  exact ⟨⟨a.l, b.l, a.A, a.c, b.A, b.c⟩, rfl, ⟨oa.reads, oa.each, ob.reads, Nat.le_trans oa.cap oa.max, Nat.le_trans ob.cap ob.max⟩, oa.cap⟩
end
end Go.Proofs.Ytbonpilpmjghbaa

namespace Go.Proofs.Ytbonpilpmjghbaa.lawLayoutApart
open Go.ChangeShapes Go.WideShapes Go.ChangeAt Go.RowKit
set_option linter.unusedVariables false

theorem own : ownKnob Try.prog.godebug = none := by kernel_rfl
theorem laidOut : laidOutB Try.prog = true := by kernel_rfl

set_option maxRecDepth 100000 in
theorem lifted (os : Os) (started : os.Started) (H : Type) (enc : TypeId × Value → H) :
    ReturnsInHanded {} Try.checked os 6 .any (Rows.layoutApartSpec.pre6 enc Try.prog Try.f6 Rows.layoutApartRow.domain false) (Rows.layoutApartSpec.post enc Try.prog Try.f6 false true false false) := by
  refine returnsInHanded_of_change (C := Try.checked) own started (by kernel_rfl) Try.func6
    (ChangeSpec.witness6 (enc := enc) (C := Try.checked) false ⟨#[], #[.agg #[.slice none 0 0, .slice none 0 0], .int .i64 0], []⟩ 8 (by kernel_rfl) (by kernel_rfl) (by kernel_rfl) (by kernel_rfl)) ?_
  intro W base args ds gs before hval0 hW hcnd _
  have hval : ∀ (j : Nat) t v, Try.f6.params[j]? = some t → args[j]? = some v → Value.okWide Try.prog W .any base t v := hval0
  have hW' := hW
  obtain ⟨p, q, hA0, hV, rfl, hfz, hnd⟩ := hW
  have hA : DataW.TrodAll enc Try.prog W 0 (fun _ => true) true Try.f6.params.toList args.toList ds p := hA0
  rw [Try.params6] at hA hval
  obtain ⟨v0, vs0, d0, ds0, p0, q0, hargs, rfl, rfl, h0, r0⟩ := trodAll_cons hA
  obtain ⟨v1, vs1, d1, ds1, p1, q1, rfl, rfl, rfl, h1, r1⟩ := trodAll_cons r0
  obtain ⟨rfl, rfl, rfl⟩ := trodAll_nil r1
  obtain rfl : args = #[v0, v1] := by cases args; simp_all
  obtain ⟨rfl, rfl⟩ := trodVars_none hV
  have k0 := h0
  have lt0 : ∀ x ∈ p0, x.block < W.heap.size := by obtain ⟨m, hm⟩ := k0; exact DataW.trod_lt m _ _ _ hm
  have k1 := h1
  have lt1 : ∀ x ∈ p1, x.block < W.heap.size := by obtain ⟨m, hm⟩ := k1; exact DataW.trod_lt m _ _ _ hm
  obtain ⟨s0, rfl, o0, y0⟩ := open_partArgC (hval 0 44 v0 rfl rfl) h0
  obtain ⟨a1, rfl, rfl, rfl, w1⟩ := open_int Try.underlying3 (hval 1 3 v1 rfl rfl) h1
  clear hA0 hval0
  have walk : Calls Try.prog 6 #[.agg #[.slice s0.fa s0.frs.length s0.fc, .slice s0.da s0.dfs.length s0.dc], .int .i64 a1] W fun e w' => e = .returned (.bool true) ∧ Below W.heap.size W w' := by
    exact layoutApart_any s0 a1 W o0 y0
  refine walk.mono fun e W' ⟨he, bel⟩ => ?_
  subst he
  exact ⟨_, rfl, _, _, _, [], _, [], hW', trodAll_mk1 (shut_bool Try.underlying4 _), (trodAll_cons_mk (Below.trod laidOut (by kernel_rfl) (of_decide_eq_true (by kernel_rfl)) k0 bel lt0) (trodAll_cons_mk (shut_int Try.underlying3 w1) trodAll_mk0)), rfl, bel.frame _, fun h => by cases h⟩

/-- The statement. -/
theorem over : Rows.layoutApartRow.holds Try.pinned (OpenSpec.ofChange Rows.layoutApartSpec) :=
  OpenClaim.holds_of_wide 6 Try.f6 rfl rfl rfl rfl rfl rfl rfl ⟨rfl, rfl, rfl, rfl, rfl⟩ rfl rfl rfl rfl rfl (by kernel_rfl) Try.func6 (by kernel_rfl)
    (of_decide_eq_true (by kernel_rfl)) (by unfold Func.isWrapper; rw [if_neg (of_decide_eq_false (by kernel_rfl))]; exact ⟨rfl, rfl⟩)
    (fun os started H enc _ => lifted os started H enc)
theorem proved : Rows.LayoutApartSaid := over
#print axioms proved
end Go.Proofs.Ytbonpilpmjghbaa.lawLayoutApart
