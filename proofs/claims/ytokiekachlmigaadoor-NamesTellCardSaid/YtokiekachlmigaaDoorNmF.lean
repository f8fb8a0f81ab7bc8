/- NmF: texts that belong together. -/
import Derived.Laws.StructEq
import Derived.Test.YtokiekachlmigaaDoorBC
import Derived.Test.YtokiekachlmigaaDoorEqP
import Derived.Test.YtokiekachlmigaaDoorFaultW
set_option linter.all false
/- Definitions and faults held against each other. -/
namespace Go.Proofs.YtokiekachlmigaaDoor
open Go.RowKit

instance decFlt : DecidableEq Flt := fun a b => decidable_of_iff (a.e = b.e ∧ a.name = b.name) (by cases a; cases b; simp)
theorem Flt.cells_len (f : Flt) : f.cells.length = 4 := rfl
theorem flt_get {w : World} {B : Nat} {A : Option Addr} {l : List Flt} (h : Reads w B 4 A l.length (fltsV l)) {i : Nat} {x : Flt} (hx : l[i]? = some x) :
    ∃ b off, A = some ⟨b, off, none⟩ ∧ b < B ∧ w.cell? ⟨b, off + i * 4, none⟩ = some (.int .i64 x.e) ∧ w.cell? ⟨b, off + i * 4 + 1, none⟩ = some (.string x.name) ∧ w.cell? ⟨b, off + i * 4 + 2, none⟩ = some (.int .i64 0) ∧ w.cell? ⟨b, off + i * 4 + 3, none⟩ = some (.int .i64 0) := by
  obtain ⟨b, off, e, hb, hc⟩ := cells_get Flt.cells_len h hx
  exact ⟨b, off, e, hb, hc 0 _ rfl, hc 1 _ rfl, hc 2 _ rfl, hc 3 _ rfl⟩

theorem fltFields : ((Tryd.prog.fieldsOf 44).toList.map fun f => (f.name != "_", f.type, f.offset)) = [(true, 27, 0), (true, 9, 1), (true, 3, 2), (true, 3, 3)] := by kernel_rfl
theorem fltUnder : Tryd.prog.underlying 44 = some (.struct (Tryd.prog.fieldsOf 44)) := by kernel_rfl
theorem fltStood : Tryd.prog.stoodInHeld 44 = false := by kernel_rfl
theorem fltPart0 (a : Int) (s : ByteArray) (b c : Int) (w : World) : (part 27 #[.int .i64 a, .string s, .int .i64 b, .int .i64 c] 0).run Tryd.prog w = .ok (.int .i64 a) w := by kernel_rfl
theorem fltPart1 (a : Int) (s : ByteArray) (b c : Int) (w : World) : (part 9 #[.int .i64 a, .string s, .int .i64 b, .int .i64 c] 1).run Tryd.prog w = .ok (.string s) w := by kernel_rfl
theorem fltPart2 (a : Int) (s : ByteArray) (b c : Int) (w : World) : (part 3 #[.int .i64 a, .string s, .int .i64 b, .int .i64 c] 2).run Tryd.prog w = .ok (.int .i64 b) w := by kernel_rfl
theorem fltPart3 (a : Int) (s : ByteArray) (b c : Int) (w : World) : (part 3 #[.int .i64 a, .string s, .int .i64 b, .int .i64 c] 3).run Tryd.prog w = .ok (.int .i64 c) w := by kernel_rfl
theorem flt_neq (x y : Flt) (w : World) : (binOp .neq 44 (.agg #[.int .i64 x.e, .string x.name, .int .i64 0, .int .i64 0]) (.agg #[.int .i64 y.e, .string y.name, .int .i64 0, .int .i64 0])).run Tryd.prog w = .ok (.bool (x != y)) w := by
  rw [run_neq_struct, run_equalIn_struct w 9999 _ _ _ fltUnder fltStood]
  have hf := fltFields
  rcases hl : (Tryd.prog.fieldsOf 44).toList with _ | ⟨f0, _ | ⟨f1, _ | ⟨f2, _ | ⟨f3, _ | ⟨f4, r⟩⟩⟩⟩⟩ <;> rw [hl] at hf <;> simp at hf
  obtain ⟨⟨n0, t0, o0⟩, ⟨n1, t1, o1⟩, ⟨n2, t2, o2⟩, ⟨n3, t3, o3⟩⟩ := hf
  simp only [Op.eqFields, t0, o0, t1, o1, t2, o2, t3, o3, n0, n1, n2, n3, ne_eq, not_false_eq_true, if_true, Sem.run_bind, fltPart0, fltPart1, fltPart2, fltPart3, Result.andThen_ok, run_equalIn_int w 9998 _ _ _ _ _ Tryd.underlying3, run_equalIn_int w 9998 _ _ _ _ _ Tryd.underlying27, run_equalIn_string w 9998 _ _ _ Tryd.underlying9, Sem.run_ite, Sem.run_pure]
  obtain ⟨a, b⟩ := x
  obtain ⟨a', b'⟩ := y
  by_cases h1 : a = a' <;> by_cases h2 : b = b' <;> simp [h1, h2, bne, Flt.mk.injEq, toList_beq, toList_inj]
theorem df_eql (x y : Df) (w : World) : (binOp .eql 31 (.agg #[.string x.name, .int .i64 x.kind, .int .i64 x.frag, .int .i64 x.at_, .int .i64 x.size, .int .i64 x.align]) (.agg #[.string y.name, .int .i64 y.kind, .int .i64 y.frag, .int .i64 y.at_, .int .i64 y.size, .int .i64 y.align])).run Tryd.prog w = .ok (.bool (x == y)) w := by
  rw [run_eql_struct, run_equalIn_struct w 9999 _ _ _ dfUnder dfStood]
  have hf := dfFields
  rcases hl : (Tryd.prog.fieldsOf 31).toList with _ | ⟨f0, _ | ⟨f1, _ | ⟨f2, _ | ⟨f3, _ | ⟨f4, _ | ⟨f5, _ | ⟨f6, r⟩⟩⟩⟩⟩⟩⟩ <;> rw [hl] at hf <;> simp at hf
  obtain ⟨⟨n0, t0, o0⟩, ⟨n1, t1, o1⟩, ⟨n2, t2, o2⟩, ⟨n3, t3, o3⟩, ⟨n4, t4, o4⟩, ⟨n5, t5, o5⟩⟩ := hf
  simp only [Op.eqFields, t0, o0, t1, o1, t2, o2, t3, o3, t4, o4, t5, o5, n0, n1, n2, n3, n4, n5, ne_eq, not_false_eq_true, if_true, Sem.run_bind, dfPart0, dfPart1, dfPart2, dfPart3, dfPart4, dfPart5, Result.andThen_ok, run_equalIn_int w 9998 _ _ _ _ _ Tryd.underlying3, run_equalIn_string w 9998 _ _ _ Tryd.underlying9, Sem.run_ite, Sem.run_pure]
  obtain ⟨a, b, c, d, e, f⟩ := x
  obtain ⟨a', b', c', d', e', f'⟩ := y
  by_cases h1 : a = a' <;> by_cases h2 : b = b' <;> by_cases h3 : c = c' <;> by_cases h4 : d = d' <;> by_cases h5 : e = e' <;> by_cases h6 : f = f' <;> simp [h1, h2, h3, h4, h5, h6, Df.mk.injEq, toList_beq, toList_inj]
set_option maxHeartbeats 1000000 in
theorem equalFlts_any (A A' : Option Addr) (c c' : Nat) (l l' : List Flt) (w : World) (h : Reads w w.heap.size 4 A l.length (fltsV l)) (h' : Reads w w.heap.size 4 A' l'.length (fltsV l')) (hm : l.length ≤ 9223372036854775807) :
    Calls Tryd.prog 21 #[.slice A l.length c, .slice A' l'.length c'] w fun e w' => e = .returned (.bool (l == l')) ∧ Below w.heap.size w w' := by
  by_cases hlen : l.length = l'.length
  · have hne : ((l.length : Int) != (l'.length : Int)) = false := by rw [hlen]; simp
    have HL := Lib.hid hlen
    have l0 : l.length ≤ l'.length := by omega
    clear hlen
    go_enter Tryd.func21, Tryd.ntmps21
    go_wp2
    go_loopw [13] (fun i wr => ∃ k : Nat, k ≤ l.length ∧ i = .int .i64 k ∧ Hid (l.take k = l'.take k) ∧ Below w.heap.size w wr) (fun i _ => l.length - (intOf i).toNat)
    case atStart => exact ⟨0, Nat.zero_le _, rfl, rfl, Below.refl _ _⟩
    case round =>
      obtain ⟨k, hk, rfl, htk, hb⟩ := hrel
      by_cases hlt : k < l.length
      · have hlt' : k < l'.length := by omega
        obtain ⟨x, hx⟩ : ∃ x, l[k] = x := ⟨_, rfl⟩
        obtain ⟨y, hy⟩ : ∃ y, l'[k] = y := ⟨_, rfl⟩
        have HX := Lib.hid hx
        have HY := Lib.hid hy
        have hx' : l[k]? = some x := by rw [List.getElem?_eq_getElem hlt, hx]
        have hy' : l'[k]? = some y := by rw [List.getElem?_eq_getElem hlt', hy]
        obtain ⟨b, off, rfl, _, c0, c1, c2, c3⟩ := flt_get (h.below hb) hx'
        obtain ⟨b', off', rfl, _, d0, d1, d2, d3⟩ := flt_get (h'.below hb) hy'
        have hq := flt_neq x y
        clear hx hy hx' hy'
        by_cases hxy : x = y
        · have hn : (x != y) = false := by simpa using hxy
          rw [hn] at hq
          have HXY := Lib.hid hxy
          clear hxy
          go_wp2
          go_quiet (fail)
          go_wp2
          go_roundw
          case rel => exact ⟨k + 1, by omega, by go_num, by show l.take (k + 1) = l'.take (k + 1); rw [List.take_succ_eq_append_getElem hlt, List.take_succ_eq_append_getElem hlt', htk.out, HX.out, HY.out, HXY.out], by (repeat' (first | exact Below.refl _ _ | assumption | refine Below.setCell ?_ (by first | omega | exact Below.size (by assumption) | (simp; done) | (simp; omega)) _ | refine Below.alloc ?_ (by first | omega | exact Below.size (by assumption) | (simp; done) | (simp; omega)) _ | refine Below.drew ?_ | refine below_drewN ?_ _))⟩
          case measure => simp [intOf]; omega
        · have hn : (x != y) = true := by simpa using hxy
          rw [hn] at hq
          have HXY := Lib.hid hxy
          clear hxy
          go_wp2
          go_quiet (fail)
          go_wp2
          go_ret
          refine ⟨ret_val (by
            have : (l == l') = false := by
              rw [beq_eq_false_iff_ne]
              intro e
              subst e
              exact HXY.out (HX.out.symm.trans HY.out)
            rw [this]; rfl), by (repeat' (first | exact Below.refl _ _ | assumption | refine Below.setCell ?_ (by first | omega | exact Below.size (by assumption) | (simp; done) | (simp; omega)) _ | refine Below.alloc ?_ (by first | omega | exact Below.size (by assumption) | (simp; done) | (simp; omega)) _ | refine Below.drew ?_ | refine below_drewN ?_ _))⟩
      · go_wp2
        go_ret
        refine ⟨ret_val (by
          have hk' : k = l.length := by omega
          have : l = l' := by
            have := htk.out
            rw [hk', List.take_length] at this
            rw [HL.out, List.take_length] at this
            exact this
          rw [this]; simp), by (repeat' (first | exact Below.refl _ _ | assumption | refine Below.setCell ?_ (by first | omega | exact Below.size (by assumption) | (simp; done) | (simp; omega)) _ | refine Below.alloc ?_ (by first | omega | exact Below.size (by assumption) | (simp; done) | (simp; omega)) _ | refine Below.drew ?_ | refine below_drewN ?_ _))⟩
  · have hne : ((l.length : Int) != (l'.length : Int)) = true := by simp; omega
    have HL := Lib.hid hlen
    clear hlen
    go_enter Tryd.func21, Tryd.ntmps21
    go_wp2
    go_ret
    refine ⟨ret_val (by
      have : (l == l') = false := by
        rw [beq_eq_false_iff_ne]
        intro e
        exact HL.out (by rw [e])
      rw [this]; rfl), Below.refl _ _⟩
end Go.Proofs.YtokiekachlmigaaDoor

/- ropewalklaw.found: the call returns true. -/
namespace Go.Proofs.YtokiekachlmigaaDoor
open Go.RowKit

def foundP : Prt := ⟨[⟨4, 1, ⟨#[]⟩, [1, 2], 0, []⟩], [⟨⟨#[120]⟩, 2, 0, 1, 0, 0⟩, ⟨⟨#[120]⟩, 3, 0, 0, 4, 2⟩, ⟨⟨#[121]⟩, 1, 0, 0, 0, 0⟩, ⟨⟨#[121]⟩, 1, 0, 2, 0, 0⟩, ⟨⟨#[120]⟩, 3, 0, 0, 3, 8⟩]⟩
theorem found_x : findP foundP ⟨#[120]⟩ = (⟨⟨#[120]⟩, 3, 0, 0, 4, 8⟩, 0) := by kernel_rfl
theorem found_y : findP foundP ⟨#[121]⟩ = (⟨⟨#[]⟩, 0, 0, 0, 0, 0⟩, 6) := by kernel_rfl
theorem found_ck : ckPart foundP = 0 := by kernel_rfl
theorem setS_eq {l : List ByteArray} {k : List (List UInt8)} (h : (l.map keyOf).mergeSort (fun x y => decide (x ≤ y)) = k) : setS l = (Lib.compact k).map ofKey := by
  unfold setS compS
  rw [sortS_key, h]
theorem found_s1 : ([[120], [120], [121], [121], [120]] : List (List UInt8)).mergeSort (fun x y => decide (x ≤ y)) = [[120], [120], [120], [121], [121]] := by
  have h1 : ([120] : List UInt8) ≤ [121] := by decide
  have h2 : ¬ ([121] : List UInt8) ≤ [120] := by decide
  simp [List.mergeSort, List.MergeSort.Internal.splitInTwo, List.merge, h1, h2]
theorem found_s2 : ([[120], [121]] : List (List UInt8)).mergeSort (fun x y => decide (x ≤ y)) = [[120], [121]] := by
  have h1 : ([120] : List UInt8) ≤ [121] := by decide
  simp [List.mergeSort, List.MergeSort.Internal.splitInTwo, h1]
theorem found_d : definedP foundP = [⟨#[120]⟩, ⟨#[121]⟩] := (setS_eq (l := foundP.dfs.map Df.name) found_s1).trans (by kernel_rfl)
theorem found_w : wantedP foundP = [] := (setS_eq (l := foundP.frs.flatMap wantedF) (k := []) (by simp [foundP, wantedF])).trans (by kernel_rfl)
theorem found_f : faultsP foundP = [⟨6, ⟨#[121]⟩⟩] := by
  unfold faultsP
  have e : setS (([] : List ByteArray) ++ [⟨#[120]⟩, ⟨#[121]⟩]) = [⟨#[120]⟩, ⟨#[121]⟩] := (setS_eq (l := [(⟨#[120]⟩ : ByteArray), ⟨#[121]⟩]) found_s2).trans (by kernel_rfl)
  have e2 : List.filterMap (fltOf foundP.dfs) [⟨#[120]⟩, ⟨#[121]⟩] = [⟨6, ⟨#[121]⟩⟩] := by kernel_rfl
  rw [found_d, found_w]
  exact (congrArg (List.filterMap (fltOf foundP.dfs)) e).trans e2

set_option maxHeartbeats 2000000 in
theorem foundW0 (w : World) : Blk ((((w.alloc (.cells #[.int .u8 1, .int .u8 2] 5)).alloc (.cells #[.int .i64 4, .int .i64 1, .string ⟨#[]⟩, .slice (some ⟨w.heap.size, 0, none⟩) 2 2, .int .i64 0, .slice none 0 0] 92)).alloc (.cells #[.string ⟨#[120]⟩, .int .i64 2, .int .i64 0, .int .i64 1, .int .i64 0, .int .i64 0, .string ⟨#[120]⟩, .int .i64 3, .int .i64 0, .int .i64 0, .int .i64 4, .int .i64 2, .string ⟨#[121]⟩, .int .i64 1, .int .i64 0, .int .i64 0, .int .i64 0, .int .i64 0, .string ⟨#[121]⟩, .int .i64 1, .int .i64 0, .int .i64 2, .int .i64 0, .int .i64 0, .string ⟨#[120]⟩, .int .i64 3, .int .i64 0, .int .i64 0, .int .i64 3, .int .i64 8] 31)).alloc (.cells #[.slice (some ⟨w.heap.size + 1, 0, none⟩) 1 1, .slice (some ⟨w.heap.size + 1 + 1, 0, none⟩) 5 5] 25)) (w.heap.size + 3) 25 #[.slice (some ⟨w.heap.size + 1, 0, none⟩) 1 1, .slice (some ⟨w.heap.size + 1 + 1, 0, none⟩) 5 5] ∧
    Below w.heap.size w ((((w.alloc (.cells #[.int .u8 1, .int .u8 2] 5)).alloc (.cells #[.int .i64 4, .int .i64 1, .string ⟨#[]⟩, .slice (some ⟨w.heap.size, 0, none⟩) 2 2, .int .i64 0, .slice none 0 0] 92)).alloc (.cells #[.string ⟨#[120]⟩, .int .i64 2, .int .i64 0, .int .i64 1, .int .i64 0, .int .i64 0, .string ⟨#[120]⟩, .int .i64 3, .int .i64 0, .int .i64 0, .int .i64 4, .int .i64 2, .string ⟨#[121]⟩, .int .i64 1, .int .i64 0, .int .i64 0, .int .i64 0, .int .i64 0, .string ⟨#[121]⟩, .int .i64 1, .int .i64 0, .int .i64 2, .int .i64 0, .int .i64 0, .string ⟨#[120]⟩, .int .i64 3, .int .i64 0, .int .i64 0, .int .i64 3, .int .i64 8] 31)).alloc (.cells #[.slice (some ⟨w.heap.size + 1, 0, none⟩) 1 1, .slice (some ⟨w.heap.size + 1 + 1, 0, none⟩) 5 5] 25)) ∧ PtM.Own ((((w.alloc (.cells #[.int .u8 1, .int .u8 2] 5)).alloc (.cells #[.int .i64 4, .int .i64 1, .string ⟨#[]⟩, .slice (some ⟨w.heap.size, 0, none⟩) 2 2, .int .i64 0, .slice none 0 0] 92)).alloc (.cells #[.string ⟨#[120]⟩, .int .i64 2, .int .i64 0, .int .i64 1, .int .i64 0, .int .i64 0, .string ⟨#[120]⟩, .int .i64 3, .int .i64 0, .int .i64 0, .int .i64 4, .int .i64 2, .string ⟨#[121]⟩, .int .i64 1, .int .i64 0, .int .i64 0, .int .i64 0, .int .i64 0, .string ⟨#[121]⟩, .int .i64 1, .int .i64 0, .int .i64 2, .int .i64 0, .int .i64 0, .string ⟨#[120]⟩, .int .i64 3, .int .i64 0, .int .i64 0, .int .i64 3, .int .i64 8] 31)).alloc (.cells #[.slice (some ⟨w.heap.size + 1, 0, none⟩) 1 1, .slice (some ⟨w.heap.size + 1 + 1, 0, none⟩) 5 5] 25)) w.heap.size ⟨[⟨⟨4, 1, ⟨#[]⟩, [1, 2], 0, []⟩, some ⟨w.heap.size, 0, none⟩, 2, none, 0⟩], [⟨⟨#[120]⟩, 2, 0, 1, 0, 0⟩, ⟨⟨#[120]⟩, 3, 0, 0, 4, 2⟩, ⟨⟨#[121]⟩, 1, 0, 0, 0, 0⟩, ⟨⟨#[121]⟩, 1, 0, 2, 0, 0⟩, ⟨⟨#[120]⟩, 3, 0, 0, 3, 8⟩], some ⟨w.heap.size + 1, 0, none⟩, 1, some ⟨w.heap.size + 1 + 1, 0, none⟩, 5⟩ := by
  have h0 := (((Blk.new' w 5 #[.int .u8 1, .int .u8 2] (g := w.heap.size) rfl).alloc (.cells #[.int .i64 4, .int .i64 1, .string ⟨#[]⟩, .slice (some ⟨w.heap.size, 0, none⟩) 2 2, .int .i64 0, .slice none 0 0] 92)).alloc (.cells #[.string ⟨#[120]⟩, .int .i64 2, .int .i64 0, .int .i64 1, .int .i64 0, .int .i64 0, .string ⟨#[120]⟩, .int .i64 3, .int .i64 0, .int .i64 0, .int .i64 4, .int .i64 2, .string ⟨#[121]⟩, .int .i64 1, .int .i64 0, .int .i64 0, .int .i64 0, .int .i64 0, .string ⟨#[121]⟩, .int .i64 1, .int .i64 0, .int .i64 2, .int .i64 0, .int .i64 0, .string ⟨#[120]⟩, .int .i64 3, .int .i64 0, .int .i64 0, .int .i64 3, .int .i64 8] 31)).alloc (.cells #[.slice (some ⟨w.heap.size + 1, 0, none⟩) 1 1, .slice (some ⟨w.heap.size + 1 + 1, 0, none⟩) 5 5] 25)
  have h1 := ((Blk.new' (w.alloc (.cells #[.int .u8 1, .int .u8 2] 5)) 92 #[.int .i64 4, .int .i64 1, .string ⟨#[]⟩, .slice (some ⟨w.heap.size, 0, none⟩) 2 2, .int .i64 0, .slice none 0 0] (g := w.heap.size + 1) (by simp)).alloc (.cells #[.string ⟨#[120]⟩, .int .i64 2, .int .i64 0, .int .i64 1, .int .i64 0, .int .i64 0, .string ⟨#[120]⟩, .int .i64 3, .int .i64 0, .int .i64 0, .int .i64 4, .int .i64 2, .string ⟨#[121]⟩, .int .i64 1, .int .i64 0, .int .i64 0, .int .i64 0, .int .i64 0, .string ⟨#[121]⟩, .int .i64 1, .int .i64 0, .int .i64 2, .int .i64 0, .int .i64 0, .string ⟨#[120]⟩, .int .i64 3, .int .i64 0, .int .i64 0, .int .i64 3, .int .i64 8] 31)).alloc (.cells #[.slice (some ⟨w.heap.size + 1, 0, none⟩) 1 1, .slice (some ⟨w.heap.size + 1 + 1, 0, none⟩) 5 5] 25)
  have h2 := (Blk.new' ((w.alloc (.cells #[.int .u8 1, .int .u8 2] 5)).alloc (.cells #[.int .i64 4, .int .i64 1, .string ⟨#[]⟩, .slice (some ⟨w.heap.size, 0, none⟩) 2 2, .int .i64 0, .slice none 0 0] 92)) 31 #[.string ⟨#[120]⟩, .int .i64 2, .int .i64 0, .int .i64 1, .int .i64 0, .int .i64 0, .string ⟨#[120]⟩, .int .i64 3, .int .i64 0, .int .i64 0, .int .i64 4, .int .i64 2, .string ⟨#[121]⟩, .int .i64 1, .int .i64 0, .int .i64 0, .int .i64 0, .int .i64 0, .string ⟨#[121]⟩, .int .i64 1, .int .i64 0, .int .i64 2, .int .i64 0, .int .i64 0, .string ⟨#[120]⟩, .int .i64 3, .int .i64 0, .int .i64 0, .int .i64 3, .int .i64 8] (g := w.heap.size + 1 + 1) (by simp)).alloc (.cells #[.slice (some ⟨w.heap.size + 1, 0, none⟩) 1 1, .slice (some ⟨w.heap.size + 1 + 1, 0, none⟩) 5 5] 25)
  have h3 := Blk.new' (((w.alloc (.cells #[.int .u8 1, .int .u8 2] 5)).alloc (.cells #[.int .i64 4, .int .i64 1, .string ⟨#[]⟩, .slice (some ⟨w.heap.size, 0, none⟩) 2 2, .int .i64 0, .slice none 0 0] 92)).alloc (.cells #[.string ⟨#[120]⟩, .int .i64 2, .int .i64 0, .int .i64 1, .int .i64 0, .int .i64 0, .string ⟨#[120]⟩, .int .i64 3, .int .i64 0, .int .i64 0, .int .i64 4, .int .i64 2, .string ⟨#[121]⟩, .int .i64 1, .int .i64 0, .int .i64 0, .int .i64 0, .int .i64 0, .string ⟨#[121]⟩, .int .i64 1, .int .i64 0, .int .i64 2, .int .i64 0, .int .i64 0, .string ⟨#[120]⟩, .int .i64 3, .int .i64 0, .int .i64 0, .int .i64 3, .int .i64 8] 31)) 25 #[.slice (some ⟨w.heap.size + 1, 0, none⟩) 1 1, .slice (some ⟨w.heap.size + 1 + 1, 0, none⟩) 5 5] (g := w.heap.size + 3) (by simp)
  have hb : Below w.heap.size w ((((w.alloc (.cells #[.int .u8 1, .int .u8 2] 5)).alloc (.cells #[.int .i64 4, .int .i64 1, .string ⟨#[]⟩, .slice (some ⟨w.heap.size, 0, none⟩) 2 2, .int .i64 0, .slice none 0 0] 92)).alloc (.cells #[.string ⟨#[120]⟩, .int .i64 2, .int .i64 0, .int .i64 1, .int .i64 0, .int .i64 0, .string ⟨#[120]⟩, .int .i64 3, .int .i64 0, .int .i64 0, .int .i64 4, .int .i64 2, .string ⟨#[121]⟩, .int .i64 1, .int .i64 0, .int .i64 0, .int .i64 0, .int .i64 0, .string ⟨#[121]⟩, .int .i64 1, .int .i64 0, .int .i64 2, .int .i64 0, .int .i64 0, .string ⟨#[120]⟩, .int .i64 3, .int .i64 0, .int .i64 0, .int .i64 3, .int .i64 8] 31)).alloc (.cells #[.slice (some ⟨w.heap.size + 1, 0, none⟩) 1 1, .slice (some ⟨w.heap.size + 1 + 1, 0, none⟩) 5 5] 25)) := by (repeat' (first | exact Below.refl _ _ | assumption | refine Below.setCell ?_ (by first | omega | exact Below.size (by assumption) | (simp; done) | (simp; omega)) _ | refine Below.alloc ?_ (by first | omega | exact Below.size (by assumption) | (simp; done) | (simp; omega)) _ | refine Below.drew ?_ | refine below_drewN ?_ _))
  have hbf := own_of_blk h0 (base := w.heap.size) (size := 1) (n := 2) (by omega) rfl (by omega)
  have hff := own_of_blk h1 (base := w.heap.size) (size := 6) (n := 1) (by omega) rfl (by omega)
  have hdf := own_of_blk h2 (base := w.heap.size) (size := 6) (n := 5) (by omega) rfl (by omega)
  refine ⟨h3, hb, hff, hdf, fun x hx => ?_, List.pairwise_singleton _ _⟩
  obtain rfl : x = _ := by simpa using hx
  exact ⟨hbf, World.ownsRow_nil _ _ _ _⟩

set_option maxHeartbeats 8000000 in
set_option maxRecDepth 100000 in
theorem found_any (w : World) : Calls Tryd.prog 15 #[] w fun e w' => e = .returned (.bool true) ∧ Below w.heap.size w w' := by
  obtain ⟨k1, hB, ow⟩ := foundW0 w
  go_enter Tryd.func15, Tryd.ntmps15
  go_upto_region 2 with (fail)
  have hq : ∃ q : PtM, Blk ((((w.alloc (.cells #[.int .u8 1, .int .u8 2] 5)).alloc (.cells #[.int .i64 4, .int .i64 1, .string ⟨#[]⟩, .slice (some ⟨w.heap.size, 0, none⟩) 2 2, .int .i64 0, .slice none 0 0] 92)).alloc (.cells #[.string ⟨#[120]⟩, .int .i64 2, .int .i64 0, .int .i64 1, .int .i64 0, .int .i64 0, .string ⟨#[120]⟩, .int .i64 3, .int .i64 0, .int .i64 0, .int .i64 4, .int .i64 2, .string ⟨#[121]⟩, .int .i64 1, .int .i64 0, .int .i64 0, .int .i64 0, .int .i64 0, .string ⟨#[121]⟩, .int .i64 1, .int .i64 0, .int .i64 2, .int .i64 0, .int .i64 0, .string ⟨#[120]⟩, .int .i64 3, .int .i64 0, .int .i64 0, .int .i64 3, .int .i64 8] 31)).alloc (.cells #[.slice (some ⟨w.heap.size + 1, 0, none⟩) 1 1, .slice (some ⟨w.heap.size + 1 + 1, 0, none⟩) 5 5] 25)) (w.heap.size + 3) 25 #[.slice q.fa q.frs.length q.fc, .slice q.da q.dfs.length q.dc] ∧ q.At ((((w.alloc (.cells #[.int .u8 1, .int .u8 2] 5)).alloc (.cells #[.int .i64 4, .int .i64 1, .string ⟨#[]⟩, .slice (some ⟨w.heap.size, 0, none⟩) 2 2, .int .i64 0, .slice none 0 0] 92)).alloc (.cells #[.string ⟨#[120]⟩, .int .i64 2, .int .i64 0, .int .i64 1, .int .i64 0, .int .i64 0, .string ⟨#[120]⟩, .int .i64 3, .int .i64 0, .int .i64 0, .int .i64 4, .int .i64 2, .string ⟨#[121]⟩, .int .i64 1, .int .i64 0, .int .i64 0, .int .i64 0, .int .i64 0, .string ⟨#[121]⟩, .int .i64 1, .int .i64 0, .int .i64 2, .int .i64 0, .int .i64 0, .string ⟨#[120]⟩, .int .i64 3, .int .i64 0, .int .i64 0, .int .i64 3, .int .i64 8] 31)).alloc (.cells #[.slice (some ⟨w.heap.size + 1, 0, none⟩) 1 1, .slice (some ⟨w.heap.size + 1 + 1, 0, none⟩) 5 5] 25)) (((((w.alloc (.cells #[.int .u8 1, .int .u8 2] 5)).alloc (.cells #[.int .i64 4, .int .i64 1, .string ⟨#[]⟩, .slice (some ⟨w.heap.size, 0, none⟩) 2 2, .int .i64 0, .slice none 0 0] 92)).alloc (.cells #[.string ⟨#[120]⟩, .int .i64 2, .int .i64 0, .int .i64 1, .int .i64 0, .int .i64 0, .string ⟨#[120]⟩, .int .i64 3, .int .i64 0, .int .i64 0, .int .i64 4, .int .i64 2, .string ⟨#[121]⟩, .int .i64 1, .int .i64 0, .int .i64 0, .int .i64 0, .int .i64 0, .string ⟨#[121]⟩, .int .i64 1, .int .i64 0, .int .i64 2, .int .i64 0, .int .i64 0, .string ⟨#[120]⟩, .int .i64 3, .int .i64 0, .int .i64 0, .int .i64 3, .int .i64 8] 31)).alloc (.cells #[.slice (some ⟨w.heap.size + 1, 0, none⟩) 1 1, .slice (some ⟨w.heap.size + 1 + 1, 0, none⟩) 5 5] 25))).heap.size ∧ q.er = foundP := ⟨⟨[⟨⟨4, 1, ⟨#[]⟩, [1, 2], 0, []⟩, some ⟨w.heap.size, 0, none⟩, 2, none, 0⟩], [⟨⟨#[120]⟩, 2, 0, 1, 0, 0⟩, ⟨⟨#[120]⟩, 3, 0, 0, 4, 2⟩, ⟨⟨#[121]⟩, 1, 0, 0, 0, 0⟩, ⟨⟨#[121]⟩, 1, 0, 2, 0, 0⟩, ⟨⟨#[120]⟩, 3, 0, 0, 3, 8⟩], some ⟨w.heap.size + 1, 0, none⟩, 1, some ⟨w.heap.size + 1 + 1, 0, none⟩, 5⟩, k1, ow.at_, rfl⟩
  clear k1 ow
  obtain ⟨W, hW⟩ : ∃ W', W' = ((((w.alloc (.cells #[.int .u8 1, .int .u8 2] 5)).alloc (.cells #[.int .i64 4, .int .i64 1, .string ⟨#[]⟩, .slice (some ⟨w.heap.size, 0, none⟩) 2 2, .int .i64 0, .slice none 0 0] 92)).alloc (.cells #[.string ⟨#[120]⟩, .int .i64 2, .int .i64 0, .int .i64 1, .int .i64 0, .int .i64 0, .string ⟨#[120]⟩, .int .i64 3, .int .i64 0, .int .i64 0, .int .i64 4, .int .i64 2, .string ⟨#[121]⟩, .int .i64 1, .int .i64 0, .int .i64 0, .int .i64 0, .int .i64 0, .string ⟨#[121]⟩, .int .i64 1, .int .i64 0, .int .i64 2, .int .i64 0, .int .i64 0, .string ⟨#[120]⟩, .int .i64 3, .int .i64 0, .int .i64 0, .int .i64 3, .int .i64 8] 31)).alloc (.cells #[.slice (some ⟨w.heap.size + 1, 0, none⟩) 1 1, .slice (some ⟨w.heap.size + 1 + 1, 0, none⟩) 5 5] 25)) := ⟨_, rfl⟩
  obtain ⟨g1, hg1⟩ : ∃ g, g = w.heap.size + 1 + 1 + 1 := ⟨_, rfl⟩
  rw [← hg1, ← hW]
  rw [← hW, show w.heap.size + 3 = g1 from hg1.symm] at hq
  rw [← hW] at hB
  clear hW hg1
  obtain ⟨q, k1, a1, hq⟩ := hq
  replace hq := Lib.hid hq
  have q0 := k1.cell 0
  have q1 := k1.cell 1
  go_wp2_with fail
  refine (findOut_any q ⟨#[120]⟩ W a1).mono ?_
  rintro e w1 ⟨rfl, hs1⟩
  rw [hq.out, found_x]
  clear q0 q1
  go_upto_region 3 with (fail)
  have hs := hs1.alloc hs1.size (.cells #[.string ⟨#[120]⟩, .int .i64 3, .int .i64 0, .int .i64 0, .int .i64 4, .int .i64 8] 31)
  have k2 := Blk.new w1 31 #[.string ⟨#[120]⟩, .int .i64 3, .int .i64 0, .int .i64 0, .int .i64 4, .int .i64 8]
  obtain ⟨g2, hg2⟩ : ∃ g, g = w1.heap.size := ⟨_, rfl⟩
  obtain ⟨W, hW⟩ : ∃ W', W' = w1.alloc (.cells #[.string ⟨#[120]⟩, .int .i64 3, .int .i64 0, .int .i64 0, .int .i64 4, .int .i64 8] 31) := ⟨_, rfl⟩
  rw [← hg2] at k2 ⊢
  rw [← hW] at hs k2 ⊢
  clear hW hg2 hs1
  replace k1 := k1.all hs
  replace a1 := a1.all hs
  replace hB := hB.trans (hs.mono hB.size)
  clear hs
  have q0 := k1.cell 0
  have q1 := k1.cell 1
  go_wp2_with fail
  refine (findOut_any q ⟨#[121]⟩ W a1).mono ?_
  rintro e w1 ⟨rfl, hs1⟩
  rw [hq.out, found_y]
  clear q0 q1
  go_upto_region 4 with (fail)
  have hs := hs1.alloc hs1.size (.cells #[.string ⟨#[]⟩, .int .i64 0, .int .i64 0, .int .i64 0, .int .i64 0, .int .i64 0] 31)
  obtain ⟨W, hW⟩ : ∃ W', W' = w1.alloc (.cells #[.string ⟨#[]⟩, .int .i64 0, .int .i64 0, .int .i64 0, .int .i64 0, .int .i64 0] 31) := ⟨_, rfl⟩
  replace k1 := k1.all hs
  replace k2 := k2.all hs
  replace a1 := a1.all hs
  replace hB := hB.trans (hs.mono hB.size)
  rw [← hW] at k1 k2 a1 hB ⊢
  clear hW hs1 hs
  have q0 := k1.cell 0
  have q1 := k1.cell 1
  go_wp2_with fail
  refine (faults_any q W a1).mono ?_
  rintro e w1 ⟨v, rfl, _, hv1, hs⟩
  rw [hq.out] at hv1 ⊢
  have r1 := hv1 found_ck
  rw [found_ck]
  rw [found_f] at r1
  obtain ⟨A1, c1, rfl, hc1, hc2⟩ := own_form r1
  replace k2 := k2.all hs
  replace hB := hB.trans (hs.mono hB.size)
  clear q0 q1 k1 a1 hv1 hs
  have x0 := k2.cell 0
  have x1 := k2.cell 1
  have x2 := k2.cell 2
  have x3 := k2.cell 3
  have x4 := k2.cell 4
  have x5 := k2.cell 5
  have hd := df_eql ⟨⟨#[120]⟩, 3, 0, 0, 4, 8⟩ ⟨⟨#[120]⟩, 3, 0, 0, 4, 8⟩
  rw [show ((⟨⟨#[120]⟩, 3, 0, 0, 4, 8⟩ : Df) == ⟨⟨#[120]⟩, 3, 0, 0, 4, 8⟩) = true from by simp] at hd
  have rN := Reads.of_own r1
  go_wp2_with (go_at_call 21
               refine (equalFlts_any A1 (some ⟨w1.heap.size, 0, none⟩) c1 1 [⟨6, ⟨#[121]⟩⟩] [⟨6, ⟨#[121]⟩⟩] (w1.alloc (.cells #[.int .i64 6, .string ⟨#[121]⟩, .int .i64 0, .int .i64 0] 44)) ?hr1 ?hr2 (by simp)).mono ?_
               case hr1 => exact (rN.alloc (Nat.le_refl _) _).more (by simp)
               case hr2 => exact (Blk.new w1 44 #[.int .i64 6, .string ⟨#[121]⟩, .int .i64 0, .int .i64 0]).reads rfl
               rintro e w2 ⟨he, hb2⟩
               rw [show (([⟨6, ⟨#[121]⟩⟩] : List Flt) == [⟨6, ⟨#[121]⟩⟩]) = true from by simp] at he
               subst he)
  go_ret
  have hb3 : Below w1.heap.size w1 (w1.alloc (.cells #[.int .i64 6, .string ⟨#[121]⟩, .int .i64 0, .int .i64 0] 44)) := by (repeat' (first | exact Below.refl _ _ | assumption | refine Below.setCell ?_ (by first | omega | exact Below.size (by assumption) | (simp; done) | (simp; omega)) _ | refine Below.alloc ?_ (by first | omega | exact Below.size (by assumption) | (simp; done) | (simp; omega)) _ | refine Below.drew ?_ | refine below_drewN ?_ _))
  exact ⟨rfl, hB.trans ((hb3.trans (hb2.mono hb3.size)).mono hB.size)⟩
end Go.Proofs.YtokiekachlmigaaDoor
