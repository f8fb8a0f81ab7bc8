/- slices.Equal over bytes, places, definitions, texts; slices.Index and Contains over texts. -/
import Derived.Test.YtokiekachlmigaaDoorBA
import Derived.Test.YtokiekachlmigaaDoorWalk
import Derived.Laws.StructEq
set_option linter.all false
namespace Go.Proofs.YtokiekachlmigaaDoor
open Go.RowKit

theorem toList_inj {a b : ByteArray} : a.toList = b.toList ↔ a = b := by
  rw [ByteArray.toList_eq, ByteArray.toList_eq]
  exact ⟨bytes_ext, fun h => by rw [h]⟩
theorem toList_beq (a b : ByteArray) : (a.toList == b.toList) = (a == b) := by
  rw [Bool.eq_iff_iff, beq_iff_eq, beq_iff_eq]; exact toList_inj
instance decRel : DecidableEq Rel := fun a b => decidable_of_iff (a.at_ = b.at_ ∧ a.kind = b.kind ∧ a.name = b.name ∧ a.frag = b.frag ∧ a.add = b.add) (by cases a; cases b; simp)
instance decDf : DecidableEq Df := fun a b => decidable_of_iff (a.name = b.name ∧ a.kind = b.kind ∧ a.frag = b.frag ∧ a.at_ = b.at_ ∧ a.size = b.size ∧ a.align = b.align) (by cases a; cases b; simp)
instance decFrg : DecidableEq Frg := fun a b => decidable_of_iff (a.sect = b.sect ∧ a.align = b.align ∧ a.group = b.group ∧ a.bs = b.bs ∧ a.size = b.size ∧ a.rs = b.rs) (by cases a; cases b; simp)
instance decPrt : DecidableEq Prt := fun a b => decidable_of_iff (a.frs = b.frs ∧ a.dfs = b.dfs) (by cases a; cases b; simp)

theorem relFields : ((Tryd.prog.fieldsOf 94).toList.map fun f => (f.name != "_", f.type, f.offset)) = [(true, 3, 0), (true, 3, 1), (true, 9, 2), (true, 3, 3), (true, 3, 4)] := by kernel_rfl
theorem relUnder : Tryd.prog.underlying 94 = some (.struct (Tryd.prog.fieldsOf 94)) := by kernel_rfl
theorem relStood : Tryd.prog.stoodInHeld 94 = false := by kernel_rfl
theorem relPart0 (a b : Int) (s : ByteArray) (c d : Int) (w : World) : (part 3 #[.int .i64 a, .int .i64 b, .string s, .int .i64 c, .int .i64 d] 0).run Tryd.prog w = .ok (.int .i64 a) w := by kernel_rfl
theorem relPart1 (a b : Int) (s : ByteArray) (c d : Int) (w : World) : (part 3 #[.int .i64 a, .int .i64 b, .string s, .int .i64 c, .int .i64 d] 1).run Tryd.prog w = .ok (.int .i64 b) w := by kernel_rfl
theorem relPart2 (a b : Int) (s : ByteArray) (c d : Int) (w : World) : (part 9 #[.int .i64 a, .int .i64 b, .string s, .int .i64 c, .int .i64 d] 2).run Tryd.prog w = .ok (.string s) w := by kernel_rfl
theorem relPart3 (a b : Int) (s : ByteArray) (c d : Int) (w : World) : (part 3 #[.int .i64 a, .int .i64 b, .string s, .int .i64 c, .int .i64 d] 3).run Tryd.prog w = .ok (.int .i64 c) w := by kernel_rfl
theorem relPart4 (a b : Int) (s : ByteArray) (c d : Int) (w : World) : (part 3 #[.int .i64 a, .int .i64 b, .string s, .int .i64 c, .int .i64 d] 4).run Tryd.prog w = .ok (.int .i64 d) w := by kernel_rfl
theorem rel_neq (x y : Rel) (w : World) : (binOp .neq 94 (.agg #[.int .i64 x.at_, .int .i64 x.kind, .string x.name, .int .i64 x.frag, .int .i64 x.add]) (.agg #[.int .i64 y.at_, .int .i64 y.kind, .string y.name, .int .i64 y.frag, .int .i64 y.add])).run Tryd.prog w = .ok (.bool (x != y)) w := by
  rw [run_neq_struct, run_equalIn_struct w 9999 _ _ _ relUnder relStood]
  have hf := relFields
  rcases hl : (Tryd.prog.fieldsOf 94).toList with _ | ⟨f0, _ | ⟨f1, _ | ⟨f2, _ | ⟨f3, _ | ⟨f4, _ | ⟨f5, r⟩⟩⟩⟩⟩⟩ <;> rw [hl] at hf <;> simp at hf
  obtain ⟨⟨n0, t0, o0⟩, ⟨n1, t1, o1⟩, ⟨n2, t2, o2⟩, ⟨n3, t3, o3⟩, ⟨n4, t4, o4⟩⟩ := hf
  simp only [Op.eqFields, t0, o0, t1, o1, t2, o2, t3, o3, t4, o4, n0, n1, n2, n3, n4, ne_eq, not_false_eq_true, if_true, Sem.run_bind, relPart0, relPart1, relPart2, relPart3, relPart4, Result.andThen_ok, run_equalIn_int w 9998 _ _ _ _ _ Tryd.underlying3, run_equalIn_string w 9998 _ _ _ Tryd.underlying9, Sem.run_ite, Sem.run_pure]
  obtain ⟨a, b, c, d, e⟩ := x
  obtain ⟨a', b', c', d', e'⟩ := y
  by_cases h1 : a = a' <;> by_cases h2 : b = b' <;> by_cases h3 : c = c' <;> by_cases h4 : d = d' <;> by_cases h5 : e = e' <;> simp [h1, h2, h3, h4, h5, bne, Rel.mk.injEq, toList_beq, toList_inj]

theorem dfFields : ((Tryd.prog.fieldsOf 31).toList.map fun f => (f.name != "_", f.type, f.offset)) = [(true, 9, 0), (true, 3, 1), (true, 3, 2), (true, 3, 3), (true, 3, 4), (true, 3, 5)] := by kernel_rfl
theorem dfUnder : Tryd.prog.underlying 31 = some (.struct (Tryd.prog.fieldsOf 31)) := by kernel_rfl
theorem dfStood : Tryd.prog.stoodInHeld 31 = false := by kernel_rfl
theorem dfPart0 (s : ByteArray) (a b c d e : Int) (w : World) : (part 9 #[.string s, .int .i64 a, .int .i64 b, .int .i64 c, .int .i64 d, .int .i64 e] 0).run Tryd.prog w = .ok (.string s) w := by kernel_rfl
theorem dfPart1 (s : ByteArray) (a b c d e : Int) (w : World) : (part 3 #[.string s, .int .i64 a, .int .i64 b, .int .i64 c, .int .i64 d, .int .i64 e] 1).run Tryd.prog w = .ok (.int .i64 a) w := by kernel_rfl
theorem dfPart2 (s : ByteArray) (a b c d e : Int) (w : World) : (part 3 #[.string s, .int .i64 a, .int .i64 b, .int .i64 c, .int .i64 d, .int .i64 e] 2).run Tryd.prog w = .ok (.int .i64 b) w := by kernel_rfl
theorem dfPart3 (s : ByteArray) (a b c d e : Int) (w : World) : (part 3 #[.string s, .int .i64 a, .int .i64 b, .int .i64 c, .int .i64 d, .int .i64 e] 3).run Tryd.prog w = .ok (.int .i64 c) w := by kernel_rfl
theorem dfPart4 (s : ByteArray) (a b c d e : Int) (w : World) : (part 3 #[.string s, .int .i64 a, .int .i64 b, .int .i64 c, .int .i64 d, .int .i64 e] 4).run Tryd.prog w = .ok (.int .i64 d) w := by kernel_rfl
theorem dfPart5 (s : ByteArray) (a b c d e : Int) (w : World) : (part 3 #[.string s, .int .i64 a, .int .i64 b, .int .i64 c, .int .i64 d, .int .i64 e] 5).run Tryd.prog w = .ok (.int .i64 e) w := by kernel_rfl
theorem df_neq (x y : Df) (w : World) : (binOp .neq 31 (.agg #[.string x.name, .int .i64 x.kind, .int .i64 x.frag, .int .i64 x.at_, .int .i64 x.size, .int .i64 x.align]) (.agg #[.string y.name, .int .i64 y.kind, .int .i64 y.frag, .int .i64 y.at_, .int .i64 y.size, .int .i64 y.align])).run Tryd.prog w = .ok (.bool (x != y)) w := by
  rw [run_neq_struct, run_equalIn_struct w 9999 _ _ _ dfUnder dfStood]
  have hf := dfFields
  rcases hl : (Tryd.prog.fieldsOf 31).toList with _ | ⟨f0, _ | ⟨f1, _ | ⟨f2, _ | ⟨f3, _ | ⟨f4, _ | ⟨f5, _ | ⟨f6, r⟩⟩⟩⟩⟩⟩⟩ <;> rw [hl] at hf <;> simp at hf
  obtain ⟨⟨n0, t0, o0⟩, ⟨n1, t1, o1⟩, ⟨n2, t2, o2⟩, ⟨n3, t3, o3⟩, ⟨n4, t4, o4⟩, ⟨n5, t5, o5⟩⟩ := hf
  simp only [Op.eqFields, t0, o0, t1, o1, t2, o2, t3, o3, t4, o4, t5, o5, n0, n1, n2, n3, n4, n5, ne_eq, not_false_eq_true, if_true, Sem.run_bind, dfPart0, dfPart1, dfPart2, dfPart3, dfPart4, dfPart5, Result.andThen_ok, run_equalIn_int w 9998 _ _ _ _ _ Tryd.underlying3, run_equalIn_string w 9998 _ _ _ Tryd.underlying9, Sem.run_ite, Sem.run_pure]
  obtain ⟨a, b, c, d, e, f⟩ := x
  obtain ⟨a', b', c', d', e', f'⟩ := y
  by_cases h1 : a = a' <;> by_cases h2 : b = b' <;> by_cases h3 : c = c' <;> by_cases h4 : d = d' <;> by_cases h5 : e = e' <;> by_cases h6 : f = f' <;> simp [h1, h2, h3, h4, h5, h6, bne, Df.mk.injEq, toList_beq, toList_inj]

set_option maxHeartbeats 1000000 in
theorem equalBytes_any (A A' : Option Addr) (c c' : Nat) (l l' : List UInt8) (w : World) (h : Reads w w.heap.size 1 A l.length (bytesV l)) (h' : Reads w w.heap.size 1 A' l'.length (bytesV l')) (hm : l.length ≤ 9223372036854775807) :
    Calls Tryd.prog 105 #[.slice A l.length c, .slice A' l'.length c'] w fun e w' => e = .returned (.bool (l == l')) ∧ Below w.heap.size w w' := by
  by_cases hlen : l.length = l'.length
  · have hne : ((l.length : Int) != (l'.length : Int)) = false := by rw [hlen]; simp
    have HL := Lib.hid hlen
    have l0 : l.length ≤ l'.length := by omega
    clear hlen
    go_enter Tryd.func105, Tryd.ntmps105
    go_wp2
    go_loopw [13] (fun i wr => ∃ k : Nat, k ≤ l.length ∧ i = .int .i64 k ∧ Hid (l.take k = l'.take k) ∧ Below w.heap.size w wr) (fun i _ => l.length - (intOf i).toNat)
    case atStart => exact ⟨0, Nat.zero_le _, rfl, rfl, Below.refl _ _⟩
    case round =>
      obtain ⟨k, hk, rfl, htk, hb⟩ := hrel
      by_cases hlt : k < l.length
      · have hlt' : k < l'.length := by omega
        obtain ⟨b, off, u, rfl, _, hu, hc⟩ := (h.below hb).at_ hlt
        rw [show (bytesV l)[k]? = some (byteV l[k]) by simp [bytesV, hlt]] at hu
        cases hu
        obtain ⟨b', off', u, rfl, _, hu, hc'⟩ := (h'.below hb).at_ hlt'
        rw [show (bytesV l')[k]? = some (byteV l'[k]) by simp [bytesV, hlt']] at hu
        cases hu
        obtain ⟨x, hx⟩ : ∃ x, l[k] = x := ⟨_, rfl⟩
        obtain ⟨y, hy⟩ : ∃ y, l'[k] = y := ⟨_, rfl⟩
        have HX := Lib.hid hx
        have HY := Lib.hid hy
        rw [hx] at hc
        rw [hy] at hc'
        clear hx hy
        unfold byteV at hc hc'
        by_cases hxy : x = y
        · have hn : (((x.toNat : Nat) : Int) != ((y.toNat : Nat) : Int)) = false := by rw [hxy]; simp
          have HXY := Lib.hid hxy
          clear hxy
          go_wp2
          go_quiet (fail)
          go_wp2
          go_roundw
          case rel => exact ⟨k + 1, by omega, by go_num, by show l.take (k + 1) = l'.take (k + 1); rw [List.take_succ_eq_append_getElem hlt, List.take_succ_eq_append_getElem hlt', htk.out, HX.out, HY.out, HXY.out], by (repeat' (first | exact Below.refl _ _ | assumption | refine Below.setCell ?_ (by first | omega | exact Below.size (by assumption) | (simp; done) | (simp; omega)) _ | refine Below.alloc ?_ (by first | omega | exact Below.size (by assumption) | (simp; done) | (simp; omega)) _ | refine Below.drew ?_ | refine below_drewN ?_ _))⟩
          case measure => simp [intOf]; omega
        · have hn : (((x.toNat : Nat) : Int) != ((y.toNat : Nat) : Int)) = true := by exact bne_iff_ne.2 fun e => hxy (UInt8.toNat_inj.1 (by omega))
          have HXY := Lib.hid hxy
          clear hxy
          go_wp2
          go_quiet (fail)
          go_wp2
          go_ret
          refine ⟨ret_val (by
            have : (l == l') = false := by
              rw [beq_eq_false_iff_ne]
              intro e
              subst e
              exact HXY.out (HX.out.symm.trans HY.out)
            rw [this]; rfl), by (repeat' (first | exact Below.refl _ _ | assumption | refine Below.setCell ?_ (by first | omega | exact Below.size (by assumption) | (simp; done) | (simp; omega)) _ | refine Below.alloc ?_ (by first | omega | exact Below.size (by assumption) | (simp; done) | (simp; omega)) _ | refine Below.drew ?_ | refine below_drewN ?_ _))⟩
      · go_wp2
        go_ret
        refine ⟨ret_val (by
          have hk' : k = l.length := by omega
          have : l = l' := by
            have := htk.out
            rw [hk', List.take_length] at this
            rw [HL.out, List.take_length] at this
            exact this
          rw [this]; simp), by (repeat' (first | exact Below.refl _ _ | assumption | refine Below.setCell ?_ (by first | omega | exact Below.size (by assumption) | (simp; done) | (simp; omega)) _ | refine Below.alloc ?_ (by first | omega | exact Below.size (by assumption) | (simp; done) | (simp; omega)) _ | refine Below.drew ?_ | refine below_drewN ?_ _))⟩
  · have hne : ((l.length : Int) != (l'.length : Int)) = true := by simp; omega
    have HL := Lib.hid hlen
    clear hlen
    go_enter Tryd.func105, Tryd.ntmps105
    go_wp2
    go_ret
    refine ⟨ret_val (by
      have : (l == l') = false := by
        rw [beq_eq_false_iff_ne]
        intro e
        exact HL.out (by rw [e])
      rw [this]; rfl), Below.refl _ _⟩

set_option maxHeartbeats 1000000 in
theorem equalRels_any (A A' : Option Addr) (c c' : Nat) (l l' : List Rel) (w : World) (h : Reads w w.heap.size 5 A l.length (relsV l)) (h' : Reads w w.heap.size 5 A' l'.length (relsV l')) (hm : l.length ≤ 9223372036854775807) :
    Calls Tryd.prog 83 #[.slice A l.length c, .slice A' l'.length c'] w fun e w' => e = .returned (.bool (l == l')) ∧ Below w.heap.size w w' := by
  by_cases hlen : l.length = l'.length
  · have hne : ((l.length : Int) != (l'.length : Int)) = false := by rw [hlen]; simp
    have HL := Lib.hid hlen
    have l0 : l.length ≤ l'.length := by omega
    clear hlen
    go_enter Tryd.func83, Tryd.ntmps83
    go_wp2
    go_loopw [13] (fun i wr => ∃ k : Nat, k ≤ l.length ∧ i = .int .i64 k ∧ Hid (l.take k = l'.take k) ∧ Below w.heap.size w wr) (fun i _ => l.length - (intOf i).toNat)
    case atStart => exact ⟨0, Nat.zero_le _, rfl, rfl, Below.refl _ _⟩
    case round =>
      obtain ⟨k, hk, rfl, htk, hb⟩ := hrel
      by_cases hlt : k < l.length
      · have hlt' : k < l'.length := by omega
        obtain ⟨x, hx⟩ : ∃ x, l[k] = x := ⟨_, rfl⟩
        obtain ⟨y, hy⟩ : ∃ y, l'[k] = y := ⟨_, rfl⟩
        have HX := Lib.hid hx
        have HY := Lib.hid hy
        have hx' : l[k]? = some x := by rw [List.getElem?_eq_getElem hlt, hx]
        have hy' : l'[k]? = some y := by rw [List.getElem?_eq_getElem hlt', hy]
        obtain ⟨b, off, rfl, _, c0, c1, c2, c3, c4⟩ := rel_get (h.below hb) hx'
        obtain ⟨b', off', rfl, _, d0, d1, d2, d3, d4⟩ := rel_get (h'.below hb) hy'
        have hq := rel_neq x y
        clear hx hy hx' hy'
        by_cases hxy : x = y
        · have hn : (x != y) = false := by simpa using hxy
          rw [hn] at hq
          have HXY := Lib.hid hxy
          clear hxy
          go_wp2
          go_quiet (fail)
          go_wp2
          go_roundw
          case rel => exact ⟨k + 1, by omega, by go_num, by show l.take (k + 1) = l'.take (k + 1); rw [List.take_succ_eq_append_getElem hlt, List.take_succ_eq_append_getElem hlt', htk.out, HX.out, HY.out, HXY.out], by (repeat' (first | exact Below.refl _ _ | assumption | refine Below.setCell ?_ (by first | omega | exact Below.size (by assumption) | (simp; done) | (simp; omega)) _ | refine Below.alloc ?_ (by first | omega | exact Below.size (by assumption) | (simp; done) | (simp; omega)) _ | refine Below.drew ?_ | refine below_drewN ?_ _))⟩
          case measure => simp [intOf]; omega
        · have hn : (x != y) = true := by simpa using hxy
          rw [hn] at hq
          have HXY := Lib.hid hxy
          clear hxy
          go_wp2
          go_quiet (fail)
          go_wp2
          go_ret
          refine ⟨ret_val (by
            have : (l == l') = false := by
              rw [beq_eq_false_iff_ne]
              intro e
              subst e
              exact HXY.out (HX.out.symm.trans HY.out)
            rw [this]; rfl), by (repeat' (first | exact Below.refl _ _ | assumption | refine Below.setCell ?_ (by first | omega | exact Below.size (by assumption) | (simp; done) | (simp; omega)) _ | refine Below.alloc ?_ (by first | omega | exact Below.size (by assumption) | (simp; done) | (simp; omega)) _ | refine Below.drew ?_ | refine below_drewN ?_ _))⟩
      · go_wp2
        go_ret
        refine ⟨ret_val (by
          have hk' : k = l.length := by omega
          have : l = l' := by
            have := htk.out
            rw [hk', List.take_length] at this
            rw [HL.out, List.take_length] at this
            exact this
          rw [this]; simp), by (repeat' (first | exact Below.refl _ _ | assumption | refine Below.setCell ?_ (by first | omega | exact Below.size (by assumption) | (simp; done) | (simp; omega)) _ | refine Below.alloc ?_ (by first | omega | exact Below.size (by assumption) | (simp; done) | (simp; omega)) _ | refine Below.drew ?_ | refine below_drewN ?_ _))⟩
  · have hne : ((l.length : Int) != (l'.length : Int)) = true := by simp; omega
    have HL := Lib.hid hlen
    clear hlen
    go_enter Tryd.func83, Tryd.ntmps83
    go_wp2
    go_ret
    refine ⟨ret_val (by
      have : (l == l') = false := by
        rw [beq_eq_false_iff_ne]
        intro e
        exact HL.out (by rw [e])
      rw [this]; rfl), Below.refl _ _⟩
set_option maxHeartbeats 1000000 in
theorem equalDefs_any (A A' : Option Addr) (c c' : Nat) (l l' : List Df) (w : World) (h : Reads w w.heap.size 6 A l.length (dfsV l)) (h' : Reads w w.heap.size 6 A' l'.length (dfsV l')) (hm : l.length ≤ 9223372036854775807) :
    Calls Tryd.prog 82 #[.slice A l.length c, .slice A' l'.length c'] w fun e w' => e = .returned (.bool (l == l')) ∧ Below w.heap.size w w' := by
  by_cases hlen : l.length = l'.length
  · have hne : ((l.length : Int) != (l'.length : Int)) = false := by rw [hlen]; simp
    have HL := Lib.hid hlen
    have l0 : l.length ≤ l'.length := by omega
    clear hlen
    go_enter Tryd.func82, Tryd.ntmps82
    go_wp2
    go_loopw [13] (fun i wr => ∃ k : Nat, k ≤ l.length ∧ i = .int .i64 k ∧ Hid (l.take k = l'.take k) ∧ Below w.heap.size w wr) (fun i _ => l.length - (intOf i).toNat)
    case atStart => exact ⟨0, Nat.zero_le _, rfl, rfl, Below.refl _ _⟩
    case round =>
      obtain ⟨k, hk, rfl, htk, hb⟩ := hrel
      by_cases hlt : k < l.length
      · have hlt' : k < l'.length := by omega
        obtain ⟨x, hx⟩ : ∃ x, l[k] = x := ⟨_, rfl⟩
        obtain ⟨y, hy⟩ : ∃ y, l'[k] = y := ⟨_, rfl⟩
        have HX := Lib.hid hx
        have HY := Lib.hid hy
        have hx' : l[k]? = some x := by rw [List.getElem?_eq_getElem hlt, hx]
        have hy' : l'[k]? = some y := by rw [List.getElem?_eq_getElem hlt', hy]
        obtain ⟨b, off, rfl, _, c0, c1, c2, c3, c4, c5⟩ := df_get (h.below hb) hx'
        obtain ⟨b', off', rfl, _, d0, d1, d2, d3, d4, d5⟩ := df_get (h'.below hb) hy'
        have hq := df_neq x y
        clear hx hy hx' hy'
        by_cases hxy : x = y
        · have hn : (x != y) = false := by simpa using hxy
          rw [hn] at hq
          have HXY := Lib.hid hxy
          clear hxy
          go_wp2
          go_quiet (fail)
          go_wp2
          go_roundw
          case rel => exact ⟨k + 1, by omega, by go_num, by show l.take (k + 1) = l'.take (k + 1); rw [List.take_succ_eq_append_getElem hlt, List.take_succ_eq_append_getElem hlt', htk.out, HX.out, HY.out, HXY.out], by (repeat' (first | exact Below.refl _ _ | assumption | refine Below.setCell ?_ (by first | omega | exact Below.size (by assumption) | (simp; done) | (simp; omega)) _ | refine Below.alloc ?_ (by first | omega | exact Below.size (by assumption) | (simp; done) | (simp; omega)) _ | refine Below.drew ?_ | refine below_drewN ?_ _))⟩
          case measure => simp [intOf]; omega
        · have hn : (x != y) = true := by simpa using hxy
          rw [hn] at hq
          have HXY := Lib.hid hxy
          clear hxy
          go_wp2
          go_quiet (fail)
          go_wp2
          go_ret
          refine ⟨ret_val (by
            have : (l == l') = false := by
              rw [beq_eq_false_iff_ne]
              intro e
              subst e
              exact HXY.out (HX.out.symm.trans HY.out)
            rw [this]; rfl), by (repeat' (first | exact Below.refl _ _ | assumption | refine Below.setCell ?_ (by first | omega | exact Below.size (by assumption) | (simp; done) | (simp; omega)) _ | refine Below.alloc ?_ (by first | omega | exact Below.size (by assumption) | (simp; done) | (simp; omega)) _ | refine Below.drew ?_ | refine below_drewN ?_ _))⟩
      · go_wp2
        go_ret
        refine ⟨ret_val (by
          have hk' : k = l.length := by omega
          have : l = l' := by
            have := htk.out
            rw [hk', List.take_length] at this
            rw [HL.out, List.take_length] at this
            exact this
          rw [this]; simp), by (repeat' (first | exact Below.refl _ _ | assumption | refine Below.setCell ?_ (by first | omega | exact Below.size (by assumption) | (simp; done) | (simp; omega)) _ | refine Below.alloc ?_ (by first | omega | exact Below.size (by assumption) | (simp; done) | (simp; omega)) _ | refine Below.drew ?_ | refine below_drewN ?_ _))⟩
  · have hne : ((l.length : Int) != (l'.length : Int)) = true := by simp; omega
    have HL := Lib.hid hlen
    clear hlen
    go_enter Tryd.func82, Tryd.ntmps82
    go_wp2
    go_ret
    refine ⟨ret_val (by
      have : (l == l') = false := by
        rw [beq_eq_false_iff_ne]
        intro e
        exact HL.out (by rw [e])
      rw [this]; rfl), Below.refl _ _⟩
end Go.Proofs.YtokiekachlmigaaDoor
