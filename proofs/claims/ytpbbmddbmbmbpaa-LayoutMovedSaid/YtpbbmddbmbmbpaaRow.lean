/- Slices among a row's arguments, opened. -/
import Derived.Test.YtpbbmddbmbmbpaaOpen
import Derived.Test.YtpbbmddbmbmbpaaMemT
import Derived.Test.YtpbbmddbmbmbpaaChecked
import Derived.ProofKit
import Derived.Lib.SmallJoins
import Derived.KernelRfl
import Derived.SizedLaws
namespace Go.Proofs.Ytpbbmddbmbmbpaa
open Go.RowKit Go.ChangeShapes Go.WideShapes Go.Deep Go.Joins

section
variable {H : Type} {enc : TypeId × Value → H} {P : Program} {w : World}
theorem open_sliceArg {α : Type} {cells : α → List Value} {ok : α → Prop} {k : Nat} {t e : TypeId} {r : Reach} {b0 : Nat} {v : Value} {d : DataW H} {p : List MemPlace} (ht : P.underlying t = some (.slice e))
    (ho : Opens enc P w t (SliceIn.cells (α := α)) (SliceIn.Ok w cells ok k)) (hv : Value.okWide P w r b0 t v) (h : DataW.Trod enc P w 0 (fun _ => true) true t v d p) :
    ∃ s : SliceIn α, v = .slice s.A s.l.length s.c ∧ SliceIn.Ok w cells ok k s ∧ (s.l.length = 0 ∨ ∃ elems spare, d = .slice elems spare ∧ elems.length + spare.length = s.c) := by
  obtain ⟨a, len, cap, rfl⟩ := okWide_slice ht hv
  obtain ⟨fuel, hf⟩ := h
  obtain ⟨s, es, os⟩ := ho fuel _ _ hf
  simp [Value.cells, SliceIn.cells] at es
  obtain ⟨rfl, rfl, rfl⟩ := es
  refine ⟨s, rfl, os, ?_⟩
  rcases open_slice ht hf with ⟨h0, _⟩ | ⟨a, len, cap, m, n, D, Pl, h0, _, _, _, hm, hd, _⟩
  · simp [Value.cells] at h0
    exact .inl (by rw [h0.2.1]; rfl)
  · simp [Value.cells] at h0
    rw [if_pos rfl] at hm
    cases hd
    exact .inr ⟨_, _, rfl, by have := os.cap; simp; omega⟩

theorem opens_ints : Opens enc Try.prog w 26 (SliceIn.cells (α := Int)) (SliceIn.Ok w (fun n : Int => [.int .i64 n]) (fun n => (Lit.int .i64 n).wf = true) 1) :=
  opens_slice Try.underlying26 (by kernel_rfl) (by decide) (fun _ => rfl) (opens_int Try.underlying3)
theorem ints_reads {s : SliceIn Int} {ok : Int → Prop} (h : SliceIn.Ok w (fun n : Int => [.int .i64 n]) ok 1 s) : Reads w w.heap.size 1 s.A s.l.length (intsV s.l) := by
  rw [intsV_flat]; exact h.reads
theorem ints_each {s : SliceIn Int} (h : SliceIn.Ok w (fun n : Int => [.int .i64 n]) (fun n => (Lit.int .i64 n).wf = true) 1 s) : ∀ x ∈ s.l, -9223372036854775808 ≤ x ∧ x ≤ 9223372036854775807 := fun x hx => bounds_i64 (h.each x hx)
end
end Go.Proofs.Ytpbbmddbmbmbpaa
