/- Farms, happenings among a row's arguments, opened. -/
import Derived.Test.YtkfmkemjoddinaaLkP
import Derived.Test.YtkfmkemjoddinaaFmA
set_option linter.all false
namespace Go.Proofs.Ytkfmkemjoddinaa
open Go.RowKit Go.ChangeShapes Go.WideShapes Go.Deep Go.Joins
set_option maxRecDepth 100000

def Hap.cells (x : Hap) : List Value := [.int .i64 x.kind, .int .i64 x.worker, .int .i64 x.k]
def hapsV (l : List Hap) : List Value := l.flatMap Hap.cells
theorem boolsV_flat (l : List Bool) : boolsV l = l.flatMap (fun b : Bool => [.bool b]) := by
  induction l with
  | nil => rfl
  | cons b l ih => rw [List.flatMap_cons, ← ih]; rfl
theorem Try.cellsBoolA : Try.prog.cellsOf 4 = 1 := by kernel_rfl
theorem Try.cellsNode : Try.prog.cellsOf 39 = 3 := by kernel_rfl
theorem Try.cellsGrant : Try.prog.cellsOf 76 = 2 := by kernel_rfl
theorem Try.cellsMsg : Try.prog.cellsOf 50 = 5 := by kernel_rfl
theorem Try.cellsHap : Try.prog.cellsOf 31 = 3 := by kernel_rfl
theorem Try.cellsFarm : Try.prog.cellsOf 29 = 8 := by kernel_rfl
theorem Try.cellsPartsA : Try.prog.cellsOf 22 = 1 := by kernel_rfl
theorem Try.cellsNodes : Try.prog.cellsOf 23 = 1 := by kernel_rfl
theorem Try.cellsBools : Try.prog.cellsOf 24 = 1 := by kernel_rfl
theorem Try.cellsGrants : Try.prog.cellsOf 25 = 1 := by kernel_rfl
theorem Try.cellsInts : Try.prog.cellsOf 26 = 1 := by kernel_rfl
theorem Try.cellsMsgs : Try.prog.cellsOf 27 = 1 := by kernel_rfl

section
variable {H : Type} {enc : TypeId × Value → H} {w : World}
theorem opens_node : Opens enc Try.prog w 39 Nd.cells (fun _ => True) := fun fuel cs x h => by
  obtain ⟨xs, n, _, _, hl, hxl, hf⟩ := DataW.trod_struct Try.underlying39 h
  rw [Try.cellsNode] at hl
  match cs, hl with
  | [v0, v1, v2], _ =>
    match xs, hxl with
    | [y0, y1, y2], _ =>
      obtain ⟨a, ea, _⟩ := opens_int Try.underlying3 n _ y0 (by simpa [Try.cellsInt] using hf 0 _ rfl)
      obtain ⟨b, eb, _⟩ := opens_int Try.underlying3 n _ y1 (by simpa [Try.cellsInt] using hf 1 _ rfl)
      obtain ⟨c, ec, _⟩ := opens_int Try.underlying3 n _ y2 (by simpa [Try.cellsInt] using hf 2 _ rfl)
      simp only [List.cons.injEq, and_true] at ea eb ec
      subst ea eb ec
      exact ⟨⟨a, b, c⟩, rfl, trivial⟩
theorem opens_hap : Opens enc Try.prog w 31 Hap.cells (fun _ => True) := fun fuel cs x h => by
  obtain ⟨xs, n, _, _, hl, hxl, hf⟩ := DataW.trod_struct Try.underlying31 h
  rw [Try.cellsHap] at hl
  match cs, hl with
  | [v0, v1, v2], _ =>
    match xs, hxl with
    | [y0, y1, y2], _ =>
      obtain ⟨a, ea, _⟩ := opens_int Try.underlying3 n _ y0 (by simpa [Try.cellsInt] using hf 0 _ rfl)
      obtain ⟨b, eb, _⟩ := opens_int Try.underlying3 n _ y1 (by simpa [Try.cellsInt] using hf 1 _ rfl)
      obtain ⟨c, ec, _⟩ := opens_int Try.underlying3 n _ y2 (by simpa [Try.cellsInt] using hf 2 _ rfl)
      simp only [List.cons.injEq, and_true] at ea eb ec
      subst ea eb ec
      exact ⟨⟨a, b, c⟩, rfl, trivial⟩
theorem opens_grant : Opens enc Try.prog w 76 Gr.cells (fun _ => True) := fun fuel cs x h => by
  obtain ⟨xs, n, _, _, hl, hxl, hf⟩ := DataW.trod_struct Try.underlying76 h
  rw [Try.cellsGrant] at hl
  match cs, hl with
  | [v0, v1], _ =>
    match xs, hxl with
    | [y0, y1], _ =>
      obtain ⟨a, ea, _⟩ := opens_int Try.underlying3 n _ y0 (by simpa [Try.cellsInt] using hf 0 _ rfl)
      obtain ⟨b, eb, _⟩ := opens_int Try.underlying3 n _ y1 (by simpa [Try.cellsInt] using hf 1 _ rfl)
      simp only [List.cons.injEq, and_true] at ea eb
      subst ea eb
      exact ⟨⟨a, b⟩, rfl, trivial⟩
theorem opens_msg : Opens enc Try.prog w 50 MsM.cells (fun m => m.p.At w w.heap.size) := fun fuel cs x h => by
  obtain ⟨xs, n, _, _, hl, hxl, hf⟩ := DataW.trod_struct Try.underlying50 h
  rw [Try.cellsMsg] at hl
  match cs, hl with
  | [v0, v1, v2, v3, v4], _ =>
    match xs, hxl with
    | [y0, y1, y2, y3], _ =>
      obtain ⟨a, ea, _⟩ := opens_int Try.underlying3 n _ y0 (by simpa [Try.cellsInt] using hf 0 _ rfl)
      obtain ⟨b, eb, _⟩ := opens_int Try.underlying3 n _ y1 (by simpa [Try.cellsInt] using hf 1 _ rfl)
      obtain ⟨c, ec, _⟩ := opens_int Try.underlying3 n _ y2 (by simpa [Try.cellsInt] using hf 2 _ rfl)
      obtain ⟨p, ep, op⟩ := opens_part (enc := enc) (w := w) n _ y3 (by simpa [Try.cellsPart] using hf 3 _ rfl)
      simp only [List.cons.injEq, and_true, PtM.cells] at ea eb ec ep
      obtain ⟨ep, ep'⟩ := ep
      subst ea eb ec ep ep'
      exact ⟨⟨a, b, c, p⟩, rfl, op⟩
theorem opens_bools : Opens enc Try.prog w 24 (SliceIn.cells (α := Bool)) (SliceIn.Ok w (fun b : Bool => [.bool b]) (fun _ => True) 1) :=
  opens_slice Try.underlying24 Try.cellsBoolA (by decide) (fun _ => rfl) (opens_bool Try.underlying4)
theorem opens_nodes : Opens enc Try.prog w 23 (SliceIn.cells (α := Nd)) (SliceIn.Ok w Nd.cells (fun _ => True) 3) :=
  opens_slice Try.underlying23 Try.cellsNode (by decide) (fun _ => rfl) opens_node
theorem opens_haps : Opens enc Try.prog w 52 (SliceIn.cells (α := Hap)) (SliceIn.Ok w Hap.cells (fun _ => True) 3) :=
  opens_slice Try.underlying52 Try.cellsHap (by decide) (fun _ => rfl) opens_hap
theorem opens_farm : Opens enc Try.prog w 29 FrM.cells (fun f => f.At w w.heap.size) := fun fuel cs x h => by
  obtain ⟨xs, n, _, _, hl, hxl, hf⟩ := DataW.trod_struct Try.underlying29 h
  rw [Try.cellsFarm] at hl
  match cs, hl with
  | [v0, v1, v2, v3, v4, v5, v6, v7], _ =>
    match xs, hxl with
    | [y0, y1, y2, y3, y4, y5, y6, y7], _ =>
      obtain ⟨a, ea, oa⟩ := opens_parts (enc := enc) (w := w) n _ y0 (by simpa [Try.cellsPartsA] using hf 0 _ rfl)
      obtain ⟨b, eb, ob⟩ := opens_nodes (enc := enc) (w := w) n _ y1 (by simpa [Try.cellsNodes] using hf 1 _ rfl)
      obtain ⟨c, ec, _⟩ := opens_int Try.underlying3 n _ y2 (by simpa [Try.cellsInt] using hf 2 _ rfl)
      obtain ⟨d, ed, od⟩ := opens_bools (enc := enc) (w := w) n _ y3 (by simpa [Try.cellsBools] using hf 3 _ rfl)
      obtain ⟨e, ee, oe⟩ := opens_parts (enc := enc) (w := w) n _ y4 (by simpa [Try.cellsPartsA] using hf 4 _ rfl)
      obtain ⟨g, eg, og⟩ := opens_slice (enc := enc) (w := w) Try.underlying25 Try.cellsGrant (by decide) (fun _ => rfl) opens_grant n _ y5 (by simpa [Try.cellsGrants] using hf 5 _ rfl)
      obtain ⟨i, ei, oi⟩ := opens_ints (enc := enc) (w := w) n _ y6 (by simpa [Try.cellsInts] using hf 6 _ rfl)
      obtain ⟨m, em, om⟩ := opens_slice (enc := enc) (w := w) Try.underlying27 Try.cellsMsg (by decide) (fun _ => rfl) opens_msg n _ y7 (by simpa [Try.cellsMsgs] using hf 7 _ rfl)
      simp only [List.cons.injEq, and_true, SliceIn.cells] at ea eb ec ed ee eg ei em
      subst ea eb ec ed ee eg ei em
      exact ⟨⟨a.l, b.l, c, d.l, e.l, g.l, i.l, m.l, a.A, a.c, b.A, b.c, d.A, d.c, e.A, e.c, g.A, g.c, i.A, i.c, m.A, m.c⟩, rfl,
        ⟨⟨oa.reads, oa.each⟩, ob.reads, by show Reads _ _ _ _ _ (boolsV d.l); rw [boolsV_flat]; exact od.reads, ⟨oe.reads, oe.each⟩, og.reads, ints_reads oi, om.reads, om.each,
          Nat.le_trans oa.cap oa.max, Nat.le_trans ob.cap ob.max, Nat.le_trans od.cap od.max, Nat.le_trans oe.cap oe.max, Nat.le_trans og.cap og.max, Nat.le_trans oi.cap oi.max, Nat.le_trans om.cap om.max⟩⟩
theorem open_farmArg {r : Reach} {b0 : Nat} {v : Value} {d : DataW H} {p : List MemPlace} (hv : Value.okWide Try.prog w r b0 29 v) (h : DataW.Trod enc Try.prog w 0 (fun _ => true) true 29 v d p) :
    ∃ f : FrM, v = .agg #[.slice f.pa f.ps.length f.pc, .slice f.la f.pl.length f.lc, .int .i64 f.now, .slice f.da f.dn.length f.dc, .slice f.ha f.hv.length f.hc, .slice f.ga f.gs.length f.gc, .slice f.wa f.wk.length f.wc, .slice f.na f.nt.length f.nc] ∧ f.At w w.heap.size := by
  obtain ⟨cs, rfl, hsz⟩ := okWide_struct Try.underlying29 hv
  obtain ⟨fuel, hf⟩ := h
  obtain ⟨x, hx, hg⟩ := opens_farm fuel cs.toList _ (by simpa [Value.cells] using hf)
  refine ⟨x, ?_, hg⟩
  obtain ⟨l⟩ := cs
  simp only at hx
  subst hx
  rfl
theorem open_hapArg {r : Reach} {b0 : Nat} {v : Value} {d : DataW H} {p : List MemPlace} (hv : Value.okWide Try.prog w r b0 31 v) (h : DataW.Trod enc Try.prog w 0 (fun _ => true) true 31 v d p) :
    ∃ x : Hap, v = .agg #[.int .i64 x.kind, .int .i64 x.worker, .int .i64 x.k] := by
  obtain ⟨cs, rfl, hsz⟩ := okWide_struct Try.underlying31 hv
  obtain ⟨fuel, hf⟩ := h
  obtain ⟨x, hx, hg⟩ := opens_hap fuel cs.toList _ (by simpa [Value.cells] using hf)
  refine ⟨x, ?_⟩
  obtain ⟨l⟩ := cs
  simp only at hx
  subst hx
  rfl
end
end Go.Proofs.Ytkfmkemjoddinaa
