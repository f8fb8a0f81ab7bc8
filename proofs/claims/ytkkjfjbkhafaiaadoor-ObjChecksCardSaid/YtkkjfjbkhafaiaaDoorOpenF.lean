/- A fragment among a row's arguments, opened. -/
import Derived.Test.YtkkjfjbkhafaiaaDoorOpenP
namespace Go.Proofs.YtkkjfjbkhafaiaaDoor
open Go.RowKit Go.ChangeShapes Go.WideShapes Go.Deep Go.Joins
set_option maxRecDepth 100000

theorem open_fragArg {H : Type} {enc : TypeId × Value → H} {w : World} {r : Reach} {b0 : Nat} {v : Value} {d : DataW H} {p : List MemPlace} (hv : Value.okWide Tryd.prog w r b0 29 v) (h : DataW.Trod enc Tryd.prog w 0 (fun _ => true) true 29 v d p) :
    ∃ x : FgM, v = .agg #[.int .i64 x.f.sect, .int .i64 x.f.align, .string x.f.group, .slice x.ba x.f.bs.length x.bc, .int .i64 x.f.size, .slice x.ra x.f.rs.length x.rc] ∧ x.Good w w.heap.size := by
  obtain ⟨cs, rfl, hsz⟩ := okWide_struct Tryd.underlying29 hv
  obtain ⟨fuel, hf⟩ := h
  obtain ⟨x, hx, hg⟩ := opens_frag fuel cs.toList _ (by simpa [Value.cells] using hf)
  refine ⟨x, ?_, hg⟩
  obtain ⟨l⟩ := cs
  simp only at hx
  subst hx
  rfl
end Go.Proofs.YtkkjfjbkhafaiaaDoor
