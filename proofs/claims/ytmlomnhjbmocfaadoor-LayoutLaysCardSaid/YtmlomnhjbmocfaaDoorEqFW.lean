/- Definitions and faults held against each other. -/
import Derived.Test.YtmlomnhjbmocfaaDoorFaultW
import Derived.Test.YtmlomnhjbmocfaaDoorB1
import Derived.Laws.StructEq
set_option linter.all false
namespace Go.Proofs.YtmlomnhjbmocfaaDoor
open Go.RowKit

instance decFlt : DecidableEq Flt := fun a b => decidable_of_iff (a.e = b.e ∧ a.name = b.name) (by cases a; cases b; simp)
theorem Flt.cells_len (f : Flt) : f.cells.length = 4 := rfl
theorem flt_get {w : World} {B : Nat} {A : Option Addr} {l : List Flt} (h : Reads w B 4 A l.length (fltsV l)) {i : Nat} {x : Flt} (hx : l[i]? = some x) :
    ∃ b off, A = some ⟨b, off, none⟩ ∧ b < B ∧ w.cell? ⟨b, off + i * 4, none⟩ = some (.int .i64 x.e) ∧ w.cell? ⟨b, off + i * 4 + 1, none⟩ = some (.string x.name) ∧ w.cell? ⟨b, off + i * 4 + 2, none⟩ = some (.int .i64 0) ∧ w.cell? ⟨b, off + i * 4 + 3, none⟩ = some (.int .i64 0) := by
  obtain ⟨b, off, e, hb, hc⟩ := cells_get Flt.cells_len h hx
  exact ⟨b, off, e, hb, hc 0 _ rfl, hc 1 _ rfl, hc 2 _ rfl, hc 3 _ rfl⟩

theorem fltPart0 (a : Int) (s : ByteArray) (b c : Int) (w : World) : (part 31 #[.int .i64 a, .string s, .int .i64 b, .int .i64 c] 0).run Tryd.prog w = .ok (.int .i64 a) w := by kernel_rfl
theorem fltPart1 (a : Int) (s : ByteArray) (b c : Int) (w : World) : (part 9 #[.int .i64 a, .string s, .int .i64 b, .int .i64 c] 1).run Tryd.prog w = .ok (.string s) w := by kernel_rfl
theorem fltPart2 (a : Int) (s : ByteArray) (b c : Int) (w : World) : (part 3 #[.int .i64 a, .string s, .int .i64 b, .int .i64 c] 2).run Tryd.prog w = .ok (.int .i64 b) w := by kernel_rfl
theorem fltPart3 (a : Int) (s : ByteArray) (b c : Int) (w : World) : (part 3 #[.int .i64 a, .string s, .int .i64 b, .int .i64 c] 3).run Tryd.prog w = .ok (.int .i64 c) w := by kernel_rfl
theorem df_eql (x y : Df) (w : World) : (binOp .eql 70 (.agg #[.string x.name, .int .i64 x.kind, .int .i64 x.frag, .int .i64 x.at_, .int .i64 x.size, .int .i64 x.align]) (.agg #[.string y.name, .int .i64 y.kind, .int .i64 y.frag, .int .i64 y.at_, .int .i64 y.size, .int .i64 y.align])).run Tryd.prog w = .ok (.bool (x == y)) w := by
  rw [run_eql_struct, run_equalIn_struct w 9999 _ _ _ dfUnder dfStood]
  have hf := dfFields
  rcases hl : (Tryd.prog.fieldsOf 70).toList with _ | ⟨f0, _ | ⟨f1, _ | ⟨f2, _ | ⟨f3, _ | ⟨f4, _ | ⟨f5, _ | ⟨f6, r⟩⟩⟩⟩⟩⟩⟩ <;> rw [hl] at hf <;> simp at hf
  obtain ⟨⟨n0, t0, o0⟩, ⟨n1, t1, o1⟩, ⟨n2, t2, o2⟩, ⟨n3, t3, o3⟩, ⟨n4, t4, o4⟩, ⟨n5, t5, o5⟩⟩ := hf
  simp only [Op.eqFields, t0, o0, t1, o1, t2, o2, t3, o3, t4, o4, t5, o5, n0, n1, n2, n3, n4, n5, ne_eq, not_false_eq_true, if_true, Sem.run_bind, dfPart0, dfPart1, dfPart2, dfPart3, dfPart4, dfPart5, Result.andThen_ok, run_equalIn_int w 9998 _ _ _ _ _ Tryd.underlying3, run_equalIn_string w 9998 _ _ _ Tryd.underlying9, Sem.run_ite, Sem.run_pure]
  obtain ⟨a, b, c, d, e, f⟩ := x
  obtain ⟨a', b', c', d', e', f'⟩ := y
  by_cases h1 : a = a' <;> by_cases h2 : b = b' <;> by_cases h3 : c = c' <;> by_cases h4 : d = d' <;> by_cases h5 : e = e' <;> by_cases h6 : f = f' <;> simp [h1, h2, h3, h4, h5, h6, Df.mk.injEq, toList_beq, toList_inj]
end Go.Proofs.YtmlomnhjbmocfaaDoor
