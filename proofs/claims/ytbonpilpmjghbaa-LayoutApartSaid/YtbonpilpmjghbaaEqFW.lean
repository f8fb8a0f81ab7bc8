/- Definitions and faults held against each other. -/
import Derived.Test.YtbonpilpmjghbaaFaultW
import Derived.Test.YtbonpilpmjghbaaEqP
import Derived.Laws.StructEq
set_option linter.all false
namespace Go.Proofs.Ytbonpilpmjghbaa
open Go.RowKit

instance decFlt : DecidableEq Flt := fun a b => decidable_of_iff (a.e = b.e ∧ a.name = b.name) (by cases a; cases b; simp)
theorem Flt.cells_len (f : Flt) : f.cells.length = 4 := rfl
theorem flt_get {w : World} {B : Nat} {A : Option Addr} {l : List Flt} (h : Reads w B 4 A l.length (fltsV l)) {i : Nat} {x : Flt} (hx : l[i]? = some x) :
    ∃ b off, A = some ⟨b, off, none⟩ ∧ b < B ∧ w.cell? ⟨b, off + i * 4, none⟩ = some (.int .i64 x.e) ∧ w.cell? ⟨b, off + i * 4 + 1, none⟩ = some (.string x.name) ∧ w.cell? ⟨b, off + i * 4 + 2, none⟩ = some (.int .i64 0) ∧ w.cell? ⟨b, off + i * 4 + 3, none⟩ = some (.int .i64 0) := by
  obtain ⟨b, off, e, hb, hc⟩ := cells_get Flt.cells_len h hx
  exact ⟨b, off, e, hb, hc 0 _ rfl, hc 1 _ rfl, hc 2 _ rfl, hc 3 _ rfl⟩

theorem fltFields : ((Try.prog.fieldsOf 118).toList.map fun f => (f.name != "_", f.type, f.offset)) = [(true, 32, 0), (true, 9, 1), (true, 3, 2), (true, 3, 3)] := by kernel_rfl
theorem fltUnder : Try.prog.underlying 118 = some (.struct (Try.prog.fieldsOf 118)) := by kernel_rfl
theorem fltStood : Try.prog.stoodInHeld 118 = false := by kernel_rfl
theorem fltPart0 (a : Int) (s : ByteArray) (b c : Int) (w : World) : (part 32 #[.int .i64 a, .string s, .int .i64 b, .int .i64 c] 0).run Try.prog w = .ok (.int .i64 a) w := by kernel_rfl
theorem fltPart1 (a : Int) (s : ByteArray) (b c : Int) (w : World) : (part 9 #[.int .i64 a, .string s, .int .i64 b, .int .i64 c] 1).run Try.prog w = .ok (.string s) w := by kernel_rfl
theorem fltPart2 (a : Int) (s : ByteArray) (b c : Int) (w : World) : (part 3 #[.int .i64 a, .string s, .int .i64 b, .int .i64 c] 2).run Try.prog w = .ok (.int .i64 b) w := by kernel_rfl
theorem fltPart3 (a : Int) (s : ByteArray) (b c : Int) (w : World) : (part 3 #[.int .i64 a, .string s, .int .i64 b, .int .i64 c] 3).run Try.prog w = .ok (.int .i64 c) w := by kernel_rfl
theorem flt_neq (x y : Flt) (w : World) : (binOp .neq 118 (.agg #[.int .i64 x.e, .string x.name, .int .i64 0, .int .i64 0]) (.agg #[.int .i64 y.e, .string y.name, .int .i64 0, .int .i64 0])).run Try.prog w = .ok (.bool (x != y)) w := by
  rw [run_neq_struct, run_equalIn_struct w 9999 _ _ _ fltUnder fltStood]
  have hf := fltFields
  rcases hl : (Try.prog.fieldsOf 118).toList with _ | ⟨f0, _ | ⟨f1, _ | ⟨f2, _ | ⟨f3, _ | ⟨f4, r⟩⟩⟩⟩⟩ <;> rw [hl] at hf <;> simp at hf
  obtain ⟨⟨n0, t0, o0⟩, ⟨n1, t1, o1⟩, ⟨n2, t2, o2⟩, ⟨n3, t3, o3⟩⟩ := hf
  simp only [Op.eqFields, t0, o0, t1, o1, t2, o2, t3, o3, n0, n1, n2, n3, ne_eq, not_false_eq_true, if_true, Sem.run_bind, fltPart0, fltPart1, fltPart2, fltPart3, Result.andThen_ok, run_equalIn_int w 9998 _ _ _ _ _ Try.underlying3, run_equalIn_int w 9998 _ _ _ _ _ Try.underlying32, run_equalIn_string w 9998 _ _ _ Try.underlying9, Sem.run_ite, Sem.run_pure]
  obtain ⟨a, b⟩ := x
  obtain ⟨a', b'⟩ := y
  by_cases h1 : a = a' <;> by_cases h2 : b = b' <;> simp [h1, h2, bne, Flt.mk.injEq, toList_beq, toList_inj]
theorem df_eql (x y : Df) (w : World) : (binOp .eql 77 (.agg #[.string x.name, .int .i64 x.kind, .int .i64 x.frag, .int .i64 x.at_, .int .i64 x.size, .int .i64 x.align]) (.agg #[.string y.name, .int .i64 y.kind, .int .i64 y.frag, .int .i64 y.at_, .int .i64 y.size, .int .i64 y.align])).run Try.prog w = .ok (.bool (x == y)) w := by
  rw [run_eql_struct, run_equalIn_struct w 9999 _ _ _ dfUnder dfStood]
  have hf := dfFields
  rcases hl : (Try.prog.fieldsOf 77).toList with _ | ⟨f0, _ | ⟨f1, _ | ⟨f2, _ | ⟨f3, _ | ⟨f4, _ | ⟨f5, _ | ⟨f6, r⟩⟩⟩⟩⟩⟩⟩ <;> rw [hl] at hf <;> simp at hf
  obtain ⟨⟨n0, t0, o0⟩, ⟨n1, t1, o1⟩, ⟨n2, t2, o2⟩, ⟨n3, t3, o3⟩, ⟨n4, t4, o4⟩, ⟨n5, t5, o5⟩⟩ := hf
  simp only [Op.eqFields, t0, o0, t1, o1, t2, o2, t3, o3, t4, o4, t5, o5, n0, n1, n2, n3, n4, n5, ne_eq, not_false_eq_true, if_true, Sem.run_bind, dfPart0, dfPart1, dfPart2, dfPart3, dfPart4, dfPart5, Result.andThen_ok, run_equalIn_int w 9998 _ _ _ _ _ Try.underlying3, run_equalIn_string w 9998 _ _ _ Try.underlying9, Sem.run_ite, Sem.run_pure]
  obtain ⟨a, b, c, d, e, f⟩ := x
  obtain ⟨a', b', c', d', e', f'⟩ := y
  by_cases h1 : a = a' <;> by_cases h2 : b = b' <;> by_cases h3 : c = c' <;> by_cases h4 : d = d' <;> by_cases h5 : e = e' <;> by_cases h6 : f = f' <;> simp [h1, h2, h3, h4, h5, h6, Df.mk.injEq, toList_beq, toList_inj]
set_option maxHeartbeats 1000000 in
theorem equalFlts_any (A A' : Option Addr) (c c' : Nat) (l l' : List Flt) (w : World) (h : Reads w w.heap.size 4 A l.length (fltsV l)) (h' : Reads w w.heap.size 4 A' l'.length (fltsV l')) (hm : l.length ≤ 9223372036854775807) :
    Calls Try.prog 57 #[.slice A l.length c, .slice A' l'.length c'] w fun e w' => e = .returned (.bool (l == l')) ∧ Below w.heap.size w w' := by
  by_cases hlen : l.length = l'.length
  · have hne : ((l.length : Int) != (l'.length : Int)) = false := by rw [hlen]; simp
    have HL := Lib.hid hlen
    have l0 : l.length ≤ l'.length := by omega
    clear hlen
    go_enter Try.func57, Try.ntmps57
    go_wp2
    go_loopw [13] (fun i wr => ∃ k : Nat, k ≤ l.length ∧ i = .int .i64 k ∧ Hid (l.take k = l'.take k) ∧ Below w.heap.size w wr) (fun i _ => l.length - (intOf i).toNat)
    case atStart => exact ⟨0, Nat.zero_le _, rfl, rfl, Below.refl _ _⟩
    case round =>
      obtain ⟨k, hk, rfl, htk, hb⟩ := hrel
      by_cases hlt : k < l.length
      · have hlt' : k < l'.length := by omega
        obtain ⟨x, hx⟩ : ∃ x, l[k] = x := ⟨_, rfl⟩
        obtain ⟨y, hy⟩ : ∃ y, l'[k] = y := ⟨_, rfl⟩
        have HX := Lib.hid hx
        have HY := Lib.hid hy
        have hx' : l[k]? = some x := by rw [List.getElem?_eq_getElem hlt, hx]
        have hy' : l'[k]? = some y := by rw [List.getElem?_eq_getElem hlt', hy]
        obtain ⟨b, off, rfl, _, c0, c1, c2, c3⟩ := flt_get (h.below hb) hx'
        obtain ⟨b', off', rfl, _, d0, d1, d2, d3⟩ := flt_get (h'.below hb) hy'
        have hq := flt_neq x y
        clear hx hy hx' hy'
        by_cases hxy : x = y
        · have hn : (x != y) = false := by simpa using hxy
          rw [hn] at hq
          have HXY := Lib.hid hxy
          clear hxy
          go_wp2
          go_quiet (fail)
          go_wp2
          go_roundw
          case rel => exact ⟨k + 1, by omega, by go_num, by show l.take (k + 1) = l'.take (k + 1); rw [List.take_succ_eq_append_getElem hlt, List.take_succ_eq_append_getElem hlt', htk.out, HX.out, HY.out, HXY.out], by (repeat' (first | exact Below.refl _ _ | assumption | refine Below.setCell ?_ (by first | omega | exact Below.size (by assumption) | (simp; done) | (simp; omega)) _ | refine Below.alloc ?_ (by first | omega | exact Below.size (by assumption) | (simp; done) | (simp; omega)) _ | refine Below.drew ?_ | refine below_drewN ?_ _))⟩
          case measure => simp [intOf]; omega
        · have hn : (x != y) = true := by simpa using hxy
          rw [hn] at hq
          have HXY := Lib.hid hxy
          clear hxy
          go_wp2
          go_quiet (fail)
          go_wp2
          go_ret
          refine ⟨ret_val (by
            have : (l == l') = false := by
              rw [beq_eq_false_iff_ne]
              intro e
              subst e
              exact HXY.out (HX.out.symm.trans HY.out)
            rw [this]; rfl), by (repeat' (first | exact Below.refl _ _ | assumption | refine Below.setCell ?_ (by first | omega | exact Below.size (by assumption) | (simp; done) | (simp; omega)) _ | refine Below.alloc ?_ (by first | omega | exact Below.size (by assumption) | (simp; done) | (simp; omega)) _ | refine Below.drew ?_ | refine below_drewN ?_ _))⟩
      · go_wp2
        go_ret
        refine ⟨ret_val (by
          have hk' : k = l.length := by omega
          have : l = l' := by
            have := htk.out
            rw [hk', List.take_length] at this
            rw [HL.out, List.take_length] at this
            exact this
          rw [this]; simp), by (repeat' (first | exact Below.refl _ _ | assumption | refine Below.setCell ?_ (by first | omega | exact Below.size (by assumption) | (simp; done) | (simp; omega)) _ | refine Below.alloc ?_ (by first | omega | exact Below.size (by assumption) | (simp; done) | (simp; omega)) _ | refine Below.drew ?_ | refine below_drewN ?_ _))⟩
  · have hne : ((l.length : Int) != (l'.length : Int)) = true := by simp; omega
    have HL := Lib.hid hlen
    clear hlen
    go_enter Try.func57, Try.ntmps57
    go_wp2
    go_ret
    refine ⟨ret_val (by
      have : (l == l') = false := by
        rw [beq_eq_false_iff_ne]
        intro e
        exact HL.out (by rw [e])
      rw [this]; rfl), Below.refl _ _⟩
end Go.Proofs.Ytbonpilpmjghbaa
