/- ropewalkref.SameFarm: alike farms are the same. -/
import Derived.Test.YtkfmkemjoddinaaEqPt
import Derived.Test.YtkfmkemjoddinaaEqN
import Derived.Test.YtkfmkemjoddinaaRefSame
import Derived.Test.YtkfmkemjoddinaaFmA
import Derived.Laws.EntriesVeiled
set_option linter.all false
namespace Go.Proofs.Ytkfmkemjoddinaa
open Go.RowKit

set_option maxHeartbeats 2000000 in
theorem equalBools_same (A A' : Option Addr) (c c' : Nat) (l : List Bool) (w : World) (h : Reads w w.heap.size 1 A l.length (boolsV l)) (h' : Reads w w.heap.size 1 A' l.length (boolsV l)) (hm : l.length ≤ 9223372036854775807) :
    Calls Try.prog 34 #[.slice A l.length c, .slice A' l.length c'] w fun e w' => e = .returned (.bool true) ∧ Below w.heap.size w w' := by
  have hne : ((l.length : Int) != (l.length : Int)) = false := by simp
  go_enter Try.func34, Try.ntmps34
  go_wp2
  go_loopw [13] (fun i wr => ∃ k : Nat, k ≤ l.length ∧ i = .int .i64 k ∧ Below w.heap.size w wr) (fun i _ => l.length - (intOf i).toNat)
  case atStart => exact ⟨0, Nat.zero_le _, rfl, Below.refl _ _⟩
  case round =>
    obtain ⟨k, hk, rfl, hb⟩ := hrel
    by_cases hlt : k < l.length
    · obtain ⟨b, off, u, rfl, _, hu, hc⟩ := (h.below hb).at_ hlt
      rw [show (boolsV l)[k]? = some (.bool l[k]) by simp [boolsV, hlt]] at hu
      cases hu
      obtain ⟨b', off', u, rfl, _, hu, hc'⟩ := (h'.below hb).at_ hlt
      rw [show (boolsV l)[k]? = some (.bool l[k]) by simp [boolsV, hlt]] at hu
      cases hu
      obtain ⟨x, hx⟩ : ∃ x, l[k] = x := ⟨_, rfl⟩
      rw [hx] at hc hc'
      clear hx
      have hn : (x != x) = false := by simp
      go_wp2
      go_quiet (fail)
      go_wp2
      go_roundw
      case rel => exact ⟨k + 1, by omega, by go_num, by (repeat' (first | exact Below.refl _ _ | assumption | refine Below.setCell ?_ (by first | omega | exact Below.size (by assumption) | (simp; done) | (simp; omega)) _ | refine Below.alloc ?_ (by first | omega | exact Below.size (by assumption) | (simp; done) | (simp; omega)) _ | refine Below.drew ?_ | refine below_drewN ?_ _))⟩
      case measure => simp [intOf]; omega
    · go_wp2
      go_ret
      exact ⟨rfl, by (repeat' (first | exact Below.refl _ _ | assumption | refine Below.setCell ?_ (by first | omega | exact Below.size (by assumption) | (simp; done) | (simp; omega)) _ | refine Below.alloc ?_ (by first | omega | exact Below.size (by assumption) | (simp; done) | (simp; omega)) _ | refine Below.drew ?_ | refine below_drewN ?_ _))⟩

theorem grantFields : ((Try.prog.fieldsOf 76).toList.map fun f => (f.name != "_", f.type, f.offset)) = [(true, 3, 0), (true, 3, 1)] := by kernel_rfl
theorem grantUnder : Try.prog.underlying 76 = some (.struct (Try.prog.fieldsOf 76)) := by kernel_rfl
theorem grantStood : Try.prog.stoodInHeld 76 = false := by kernel_rfl
theorem grantPart0 (a b : Int) (w : World) : (part 3 #[.int .i64 a, .int .i64 b] 0).run Try.prog w = .ok (.int .i64 a) w := by kernel_rfl
theorem grantPart1 (a b : Int) (w : World) : (part 3 #[.int .i64 a, .int .i64 b] 1).run Try.prog w = .ok (.int .i64 b) w := by kernel_rfl
theorem grant_neq (a b : Int) (w : World) : (binOp .neq 76 (.agg #[.int .i64 a, .int .i64 b]) (.agg #[.int .i64 a, .int .i64 b])).run Try.prog w = .ok (.bool false) w := by
  rw [run_neq_struct, run_equalIn_struct w 9999 _ _ _ grantUnder grantStood]
  have hf := grantFields
  rcases hl : (Try.prog.fieldsOf 76).toList with _ | ⟨f0, _ | ⟨f1, _ | ⟨f2, r⟩⟩⟩ <;> rw [hl] at hf <;> simp at hf
  obtain ⟨⟨n0, t0, o0⟩, ⟨n1, t1, o1⟩⟩ := hf
  simp only [Op.eqFields, t0, o0, t1, o1, n0, n1, ne_eq, not_false_eq_true, if_true, Sem.run_bind, grantPart0, grantPart1, Result.andThen_ok, run_equalIn_int w 9998 _ _ _ _ _ Try.underlying3, Sem.run_ite, Sem.run_pure]
  simp
set_option maxHeartbeats 2000000 in
theorem equalGrants_same (A A' : Option Addr) (c c' : Nat) (l : List Gr) (w : World) (h : Reads w w.heap.size 2 A l.length (grsV l)) (h' : Reads w w.heap.size 2 A' l.length (grsV l)) (hm : l.length ≤ 9223372036854775807) :
    Calls Try.prog 35 #[.slice A l.length c, .slice A' l.length c'] w fun e w' => e = .returned (.bool true) ∧ Below w.heap.size w w' := by
  have hne : ((l.length : Int) != (l.length : Int)) = false := by simp
  go_enter Try.func35, Try.ntmps35
  go_wp2
  go_loopw [13] (fun i wr => ∃ k : Nat, k ≤ l.length ∧ i = .int .i64 k ∧ Below w.heap.size w wr) (fun i _ => l.length - (intOf i).toNat)
  case atStart => exact ⟨0, Nat.zero_le _, rfl, Below.refl _ _⟩
  case round =>
    obtain ⟨k, hk, rfl, hb⟩ := hrel
    by_cases hlt : k < l.length
    · obtain ⟨x, hx⟩ : ∃ x, l[k]? = some x := ⟨_, List.getElem?_eq_getElem hlt⟩
      obtain ⟨b, off, rfl, _, c0, c1⟩ := gr_get (h.below hb) hx
      obtain ⟨b', off', rfl, _, d0, d1⟩ := gr_get (h'.below hb) hx
      have hq := grant_neq x.worker x.until_
      clear hx
      go_wp2
      go_quiet (fail)
      go_wp2
      go_roundw
      case rel => exact ⟨k + 1, by omega, by go_num, by (repeat' (first | exact Below.refl _ _ | assumption | refine Below.setCell ?_ (by first | omega | exact Below.size (by assumption) | (simp; done) | (simp; omega)) _ | refine Below.alloc ?_ (by first | omega | exact Below.size (by assumption) | (simp; done) | (simp; omega)) _ | refine Below.drew ?_ | refine below_drewN ?_ _))⟩
      case measure => simp [intOf]; omega
    · go_wp2
      go_ret
      exact ⟨rfl, by (repeat' (first | exact Below.refl _ _ | assumption | refine Below.setCell ?_ (by first | omega | exact Below.size (by assumption) | (simp; done) | (simp; omega)) _ | refine Below.alloc ?_ (by first | omega | exact Below.size (by assumption) | (simp; done) | (simp; omega)) _ | refine Below.drew ?_ | refine below_drewN ?_ _))⟩
set_option maxHeartbeats 1000000 in
theorem equalIntsF_any (A A' : Option Addr) (c c' : Nat) (l l' : List Int) (w : World) (h : Reads w w.heap.size 1 A l.length (intsV l)) (h' : Reads w w.heap.size 1 A' l'.length (intsV l')) (hm : l.length ≤ 9223372036854775807) :
    Calls Try.prog 36 #[.slice A l.length c, .slice A' l'.length c'] w fun e w' => e = .returned (.bool (l == l')) ∧ Below w.heap.size w w' := by
  by_cases hlen : l.length = l'.length
  · have hne : ((l.length : Int) != (l'.length : Int)) = false := by rw [hlen]; simp
    have HL := Lib.hid hlen
    have l0 : l.length ≤ l'.length := by omega
    clear hlen
    go_enter Try.func36, Try.ntmps36
    go_wp2
    go_loopw [13] (fun i wr => ∃ k : Nat, k ≤ l.length ∧ i = .int .i64 k ∧ Hid (l.take k = l'.take k) ∧ Below w.heap.size w wr) (fun i _ => l.length - (intOf i).toNat)
    case atStart => exact ⟨0, Nat.zero_le _, rfl, rfl, Below.refl _ _⟩
    case round =>
      obtain ⟨k, hk, rfl, htk, hb⟩ := hrel
      by_cases hlt : k < l.length
      · have hlt' : k < l'.length := by omega
        obtain ⟨b, off, u, rfl, _, hu, hc⟩ := (h.below hb).at_ hlt
        rw [show (intsV l)[k]? = some (intV l[k]) by simp [intsV, hlt]] at hu
        cases hu
        obtain ⟨b', off', u, rfl, _, hu, hc'⟩ := (h'.below hb).at_ hlt'
        rw [show (intsV l')[k]? = some (intV l'[k]) by simp [intsV, hlt']] at hu
        cases hu
        obtain ⟨x, hx⟩ : ∃ x, l[k] = x := ⟨_, rfl⟩
        obtain ⟨y, hy⟩ : ∃ y, l'[k] = y := ⟨_, rfl⟩
        have HX := Lib.hid hx
        have HY := Lib.hid hy
        rw [hx] at hc
        rw [hy] at hc'
        clear hx hy
        unfold intV at hc hc'
        by_cases hxy : x = y
        · have hn : (x != y) = false := by rw [hxy]; simp
          have HXY := Lib.hid hxy
          clear hxy
          go_wp2
          go_quiet (fail)
          go_wp2
          go_roundw
          case rel => exact ⟨k + 1, by omega, by go_num, by show l.take (k + 1) = l'.take (k + 1); rw [List.take_succ_eq_append_getElem hlt, List.take_succ_eq_append_getElem hlt', htk.out, HX.out, HY.out, HXY.out], by (repeat' (first | exact Below.refl _ _ | assumption | refine Below.setCell ?_ (by first | omega | exact Below.size (by assumption) | (simp; done) | (simp; omega)) _ | refine Below.alloc ?_ (by first | omega | exact Below.size (by assumption) | (simp; done) | (simp; omega)) _ | refine Below.drew ?_ | refine below_drewN ?_ _))⟩
          case measure => simp [intOf]; omega
        · have hn : (x != y) = true := by simpa using hxy
          have HXY := Lib.hid hxy
          clear hxy
          go_wp2
          go_quiet (fail)
          go_wp2
          go_ret
          refine ⟨ret_val (by
            have : (l == l') = false := by
              rw [beq_eq_false_iff_ne]
              intro e
              subst e
              exact HXY.out (HX.out.symm.trans HY.out)
            rw [this]; rfl), by (repeat' (first | exact Below.refl _ _ | assumption | refine Below.setCell ?_ (by first | omega | exact Below.size (by assumption) | (simp; done) | (simp; omega)) _ | refine Below.alloc ?_ (by first | omega | exact Below.size (by assumption) | (simp; done) | (simp; omega)) _ | refine Below.drew ?_ | refine below_drewN ?_ _))⟩
      · go_wp2
        go_ret
        refine ⟨ret_val (by
          have hk' : k = l.length := by omega
          have : l = l' := by
            have := htk.out
            rw [hk', List.take_length] at this
            rw [HL.out, List.take_length] at this
            exact this
          rw [this]; simp), by (repeat' (first | exact Below.refl _ _ | assumption | refine Below.setCell ?_ (by first | omega | exact Below.size (by assumption) | (simp; done) | (simp; omega)) _ | refine Below.alloc ?_ (by first | omega | exact Below.size (by assumption) | (simp; done) | (simp; omega)) _ | refine Below.drew ?_ | refine below_drewN ?_ _))⟩
  · have hne : ((l.length : Int) != (l'.length : Int)) = true := by simp; omega
    have HL := Lib.hid hlen
    clear hlen
    go_enter Try.func36, Try.ntmps36
    go_wp2
    go_ret
    refine ⟨ret_val (by
      have : (l == l') = false := by
        rw [beq_eq_false_iff_ne]
        intro e
        exact HL.out (by rw [e])
      rw [this]; rfl), Below.refl _ _⟩


set_option maxHeartbeats 8000000 in
set_option maxRecDepth 100000 in
theorem equalPartsR_same (A A' : Option Addr) (c c' : Nat) (l l' : List PtM) (w : World) (h : PtsAt w w.heap.size A l) (h' : PtsAt w w.heap.size A' l') (hm : l.length ≤ 9223372036854775807) (he : l.map PtM.er = l'.map PtM.er) :
    Calls Try.prog 11 #[.slice A l.length c, .slice A' l'.length c', .func (.func 33) #[] #[]] w
      fun e w' => e = .returned (.bool true) ∧ Below w.heap.size w w' := by
  have hr := h.row
  have hr' := h'.row
  have G1 := Lib.hid h.each
  have G2 := Lib.hid h'.each
  clear h h'
  have hlen : l.length = l'.length := by have := congrArg List.length he; simpa using this
  have hne : ((l.length : Int) != (l'.length : Int)) = false := by rw [hlen]; simp
  have HL := Lib.hid hlen
  have HE := Lib.hid he
  have l0 : l.length ≤ l'.length := by omega
  clear hlen he
  go_enter Try.func11, Try.ntmps11
  go_wp2
  go_loopw [17] (fun i wr => ∃ k : Nat, k ≤ l.length ∧ i = .int .i64 k ∧ Below w.heap.size w wr) (fun i _ => l.length - (intOf i).toNat)
  case atStart => exact ⟨0, Nat.zero_le _, rfl, Below.refl _ _⟩
  case round =>
    obtain ⟨k, hk, rfl, hb⟩ := hrel
    by_cases hlt : k < l.length
    · have hlt' : k < l'.length := by omega
      obtain ⟨x, hx⟩ : ∃ x, l[k]? = some x := ⟨_, List.getElem?_eq_getElem hlt⟩
      obtain ⟨y, hy⟩ : ∃ y, l'[k]? = some y := ⟨_, List.getElem?_eq_getElem hlt'⟩
      have hX := (G1.out x (List.mem_of_getElem? hx)).keep hb hb.size
      have hY := (G2.out y (List.mem_of_getElem? hy)).keep hb hb.size
      obtain ⟨b, off, rfl, bl, c0, c1⟩ := pt_get (hr.below hb) hx
      obtain ⟨b', off', rfl, bl', d0, d1⟩ := pt_get ((hr'.below hb).alloc hb.size (.cells #[.slice (x).fa (x).frs.length (x).fc, .slice (x).da (x).dfs.length (x).dc] 44)) hy
      have bz := hb.size
      have z1 : b ≠ wr.heap.size := by omega
      have z2 : b' ≠ wr.heap.size := by omega
      have HXY : Hid (decide (x.er = y.er) = true) := decide_eq_true (by
        have := congrArg (fun m : List Prt => m[k]?) HE.out
        simp only [List.getElem?_map, hx, hy, Option.map_some, Option.some.injEq] at this
        exact this)
      clear hx hy
      go_wp2_with fail
      refine (samePart_any x y _ ?_ ?_).mono ?_
      · exact hX.keep (by (repeat' (first | exact Below.refl _ _ | assumption | refine Below.setCell ?_ (by first | omega | exact Below.size (by assumption) | (simp; done) | (simp; omega)) _ | refine Below.alloc ?_ (by first | omega | exact Below.size (by assumption) | (simp; done) | (simp; omega)) _ | refine Below.drew ?_ | refine below_drewN ?_ _))) (by simp; omega)
      · exact hY.keep (by (repeat' (first | exact Below.refl _ _ | assumption | refine Below.setCell ?_ (by first | omega | exact Below.size (by assumption) | (simp; done) | (simp; omega)) _ | refine Below.alloc ?_ (by first | omega | exact Below.size (by assumption) | (simp; done) | (simp; omega)) _ | refine Below.drew ?_ | refine below_drewN ?_ _))) (by simp; omega)
      rintro e w1 ⟨rfl, hb1⟩
      have hB : Below w.heap.size w w1 := Below.trans (by (repeat' (first | exact Below.refl _ _ | assumption | refine Below.setCell ?_ (by first | omega | exact Below.size (by assumption) | (simp; done) | (simp; omega)) _ | refine Below.alloc ?_ (by first | omega | exact Below.size (by assumption) | (simp; done) | (simp; omega)) _ | refine Below.drew ?_ | refine below_drewN ?_ _))) (hb1.mono (by have := hb.size; simp; omega))
      rw [HXY.out]
      clear hb1 c0 c1 d0 d1
      go_wp2
      go_roundw
      case rel => exact ⟨k + 1, by omega, by go_num, hB⟩
      case measure => simp [intOf]; omega
    · go_wp2
      go_ret
      exact ⟨rfl, hb⟩
set_option maxHeartbeats 8000000 in
set_option maxRecDepth 100000 in
theorem sameFarm1_same (x y : MsM) (w : World) (hx : x.p.At w w.heap.size) (hy : y.p.At w w.heap.size) (he : x.er = y.er) :
    Calls Try.prog 38 #[.agg #[.int .i64 x.kind, .int .i64 x.worker, .int .i64 x.n, .slice x.p.fa x.p.frs.length x.p.fc, .slice x.p.da x.p.dfs.length x.p.dc], .agg #[.int .i64 y.kind, .int .i64 y.worker, .int .i64 y.n, .slice y.p.fa y.p.frs.length y.p.fc, .slice y.p.da y.p.dfs.length y.p.dc]] w
      fun e w' => e = .returned (.bool true) ∧ Below w.heap.size w w' := by
  obtain ⟨k1, v1, n1, p1⟩ := x
  obtain ⟨k2, v2, n2, p2⟩ := y
  unfold MsM.er at he
  injection he with e1 e2 e3 e4
  dsimp only at e1 e2 e3 e4 hx hy ⊢
  subst e1 e2 e3
  have HE : Hid (decide (p1.er = p2.er) = true) := decide_eq_true e4
  clear e4
  have kX := (Blk.new w 50 #[.int .i64 k1, .int .i64 v1, .int .i64 n1, .slice p1.fa p1.frs.length p1.fc, .slice p1.da p1.dfs.length p1.dc]).alloc (.cells #[.int .i64 k1, .int .i64 v1, .int .i64 n1, .slice p2.fa p2.frs.length p2.fc, .slice p2.da p2.dfs.length p2.dc] 50)
  have kY := Blk.new' (w.alloc (.cells #[.int .i64 k1, .int .i64 v1, .int .i64 n1, .slice p1.fa p1.frs.length p1.fc, .slice p1.da p1.dfs.length p1.dc] 50)) 50 #[.int .i64 k1, .int .i64 v1, .int .i64 n1, .slice p2.fa p2.frs.length p2.fc, .slice p2.da p2.dfs.length p2.dc] (g := w.heap.size + 1) (by simp)
  have hB : Below w.heap.size w ((w.alloc (.cells #[.int .i64 k1, .int .i64 v1, .int .i64 n1, .slice p1.fa p1.frs.length p1.fc, .slice p1.da p1.dfs.length p1.dc] 50)).alloc (.cells #[.int .i64 k1, .int .i64 v1, .int .i64 n1, .slice p2.fa p2.frs.length p2.fc, .slice p2.da p2.dfs.length p2.dc] 50)) := by (repeat' (first | exact Below.refl _ _ | assumption | refine Below.setCell ?_ (by first | omega | exact Below.size (by assumption) | (simp; done) | (simp; omega)) _ | refine Below.alloc ?_ (by first | omega | exact Below.size (by assumption) | (simp; done) | (simp; omega)) _ | refine Below.drew ?_ | refine below_drewN ?_ _))
  replace hx := hx.all hB
  replace hy := hy.all hB
  go_enter Try.func38, Try.ntmps38
  go_upto_region 1 with (fail)
  obtain ⟨W, hW⟩ : ∃ W', W' = ((w.alloc (.cells #[.int .i64 k1, .int .i64 v1, .int .i64 n1, .slice p1.fa p1.frs.length p1.fc, .slice p1.da p1.dfs.length p1.dc] 50)).alloc (.cells #[.int .i64 k1, .int .i64 v1, .int .i64 n1, .slice p2.fa p2.frs.length p2.fc, .slice p2.da p2.dfs.length p2.dc] 50)) := ⟨_, rfl⟩
  obtain ⟨gY, hgY⟩ : ∃ g, g = w.heap.size + 1 := ⟨_, rfl⟩
  obtain ⟨gX, hgX⟩ : ∃ g, g = w.heap.size := ⟨_, rfl⟩
  rw [← hgY] at kY ⊢
  rw [← hgX] at kX ⊢
  rw [← hW] at kX kY hx hy hB ⊢
  clear hW hgY hgX
  have a0 := kX.cell 0
  have a1 := kX.cell 1
  have a2 := kX.cell 2
  have a3 := kX.cell 3
  have a4 := kX.cell 4
  have b0 := kY.cell 0
  have b1 := kY.cell 1
  have b2 := kY.cell 2
  have b3 := kY.cell 3
  have b4 := kY.cell 4
  have t1 : (k1 == k1) = true := by simp
  have t2 : (v1 == v1) = true := by simp
  have t3 : (n1 == n1) = true := by simp
  have SM := Lib.hid (samePart_any p1 p2 W hx hy)
  rw [HE.out] at SM
  go_wp2_with fail
  refine SM.out.mono ?_
  rintro e w1 ⟨rfl, hb1⟩
  have hBx := hB.trans (hb1.mono hB.size)
  go_wp2
  go_ret
  exact ⟨rfl, hBx⟩
set_option maxHeartbeats 8000000 in
set_option maxRecDepth 100000 in
theorem equalMsgs_same (A A' : Option Addr) (c c' : Nat) (l l' : List MsM) (w : World) (h : Reads w w.heap.size 5 A l.length (mssV l)) (h' : Reads w w.heap.size 5 A' l'.length (mssV l')) (g : ∀ m ∈ l, m.p.At w w.heap.size) (g' : ∀ m ∈ l', m.p.At w w.heap.size) (hm : l.length ≤ 9223372036854775807) (he : l.map MsM.er = l'.map MsM.er) :
    Calls Try.prog 37 #[.slice A l.length c, .slice A' l'.length c', .func (.func 38) #[] #[]] w
      fun e w' => e = .returned (.bool true) ∧ Below w.heap.size w w' := by
  have G1 := Lib.hid g
  have G2 := Lib.hid g'
  clear g g'
  have hlen : l.length = l'.length := by have := congrArg List.length he; simpa using this
  have hne : ((l.length : Int) != (l'.length : Int)) = false := by rw [hlen]; simp
  have HL := Lib.hid hlen
  have HE := Lib.hid he
  have l0 : l.length ≤ l'.length := by omega
  clear hlen he
  go_enter Try.func37, Try.ntmps37
  go_wp2
  go_loopw [17] (fun i wr => ∃ k : Nat, k ≤ l.length ∧ i = .int .i64 k ∧ Below w.heap.size w wr) (fun i _ => l.length - (intOf i).toNat)
  case atStart => exact ⟨0, Nat.zero_le _, rfl, Below.refl _ _⟩
  case round =>
    obtain ⟨k, hk, rfl, hb⟩ := hrel
    by_cases hlt : k < l.length
    · have hlt' : k < l'.length := by omega
      obtain ⟨x, hx⟩ : ∃ x, l[k]? = some x := ⟨_, List.getElem?_eq_getElem hlt⟩
      obtain ⟨y, hy⟩ : ∃ y, l'[k]? = some y := ⟨_, List.getElem?_eq_getElem hlt'⟩
      have hX := (G1.out x (List.mem_of_getElem? hx)).keep hb hb.size
      have hY := (G2.out y (List.mem_of_getElem? hy)).keep hb hb.size
      obtain ⟨b, off, rfl, bl, c0, c1, c2, c3, c4⟩ := ms_get (h.below hb) hx
      obtain ⟨b', off', rfl, bl', d0, d1, d2, d3, d4⟩ := ms_get ((h'.below hb).alloc hb.size (.cells #[.int .i64 x.kind, .int .i64 x.worker, .int .i64 x.n, .slice x.p.fa x.p.frs.length x.p.fc, .slice x.p.da x.p.dfs.length x.p.dc] 50)) hy
      have bz := hb.size
      have z1 : b ≠ wr.heap.size := by omega
      have z2 : b' ≠ wr.heap.size := by omega
      have HXY : Hid (x.er = y.er) := by
        have := congrArg (fun m : List Msg => m[k]?) HE.out
        simp only [List.getElem?_map, hx, hy, Option.map_some, Option.some.injEq] at this
        exact this
      clear hx hy
      go_wp2_with fail
      refine (sameFarm1_same x y _ ?_ ?_ HXY.out).mono ?_
      · exact hX.keep (by (repeat' (first | exact Below.refl _ _ | assumption | refine Below.setCell ?_ (by first | omega | exact Below.size (by assumption) | (simp; done) | (simp; omega)) _ | refine Below.alloc ?_ (by first | omega | exact Below.size (by assumption) | (simp; done) | (simp; omega)) _ | refine Below.drew ?_ | refine below_drewN ?_ _))) (by simp; omega)
      · exact hY.keep (by (repeat' (first | exact Below.refl _ _ | assumption | refine Below.setCell ?_ (by first | omega | exact Below.size (by assumption) | (simp; done) | (simp; omega)) _ | refine Below.alloc ?_ (by first | omega | exact Below.size (by assumption) | (simp; done) | (simp; omega)) _ | refine Below.drew ?_ | refine below_drewN ?_ _))) (by simp; omega)
      rintro e w1 ⟨rfl, hb1⟩
      have hB : Below w.heap.size w w1 := Below.trans (by (repeat' (first | exact Below.refl _ _ | assumption | refine Below.setCell ?_ (by first | omega | exact Below.size (by assumption) | (simp; done) | (simp; omega)) _ | refine Below.alloc ?_ (by first | omega | exact Below.size (by assumption) | (simp; done) | (simp; omega)) _ | refine Below.drew ?_ | refine below_drewN ?_ _))) (hb1.mono (by have := hb.size; simp; omega))
      clear hb1 c0 c1 c2 c3 c4 d0 d1 d2 d3 d4
      go_wp2
      go_roundw
      case rel => exact ⟨k + 1, by omega, by go_num, hB⟩
      case measure => simp [intOf]; omega
    · go_wp2
      go_ret
      exact ⟨rfl, hb⟩
set_option maxHeartbeats 20000000 in
set_option maxRecDepth 100000 in
theorem sameFarm_same (a b : FrM) (w : World) (ha : a.At w w.heap.size) (hb : b.At w w.heap.size) (he : a.er = b.er) :
    Calls Try.prog 14 #[.agg #[.slice a.pa a.ps.length a.pc, .slice a.la a.pl.length a.lc, .int .i64 a.now, .slice a.da a.dn.length a.dc, .slice a.ha a.hv.length a.hc, .slice a.ga a.gs.length a.gc, .slice a.wa a.wk.length a.wc, .slice a.na a.nt.length a.nc], .agg #[.slice b.pa b.ps.length b.pc, .slice b.la b.pl.length b.lc, .int .i64 b.now, .slice b.da b.dn.length b.dc, .slice b.ha b.hv.length b.hc, .slice b.ga b.gs.length b.gc, .slice b.wa b.wk.length b.wc, .slice b.na b.nt.length b.nc]] w fun e w' => e = .returned (.bool true) ∧ Below w.heap.size w w' := by
  have kX := (Blk.new w 29 #[.slice a.pa a.ps.length a.pc, .slice a.la a.pl.length a.lc, .int .i64 a.now, .slice a.da a.dn.length a.dc, .slice a.ha a.hv.length a.hc, .slice a.ga a.gs.length a.gc, .slice a.wa a.wk.length a.wc, .slice a.na a.nt.length a.nc]).alloc (.cells #[.slice b.pa b.ps.length b.pc, .slice b.la b.pl.length b.lc, .int .i64 b.now, .slice b.da b.dn.length b.dc, .slice b.ha b.hv.length b.hc, .slice b.ga b.gs.length b.gc, .slice b.wa b.wk.length b.wc, .slice b.na b.nt.length b.nc] 29)
  have kY := Blk.new' (w.alloc (.cells #[.slice a.pa a.ps.length a.pc, .slice a.la a.pl.length a.lc, .int .i64 a.now, .slice a.da a.dn.length a.dc, .slice a.ha a.hv.length a.hc, .slice a.ga a.gs.length a.gc, .slice a.wa a.wk.length a.wc, .slice a.na a.nt.length a.nc] 29)) 29 #[.slice b.pa b.ps.length b.pc, .slice b.la b.pl.length b.lc, .int .i64 b.now, .slice b.da b.dn.length b.dc, .slice b.ha b.hv.length b.hc, .slice b.ga b.gs.length b.gc, .slice b.wa b.wk.length b.wc, .slice b.na b.nt.length b.nc] (g := w.heap.size + 1) (by simp)
  have hB : Below w.heap.size w ((w.alloc (.cells #[.slice a.pa a.ps.length a.pc, .slice a.la a.pl.length a.lc, .int .i64 a.now, .slice a.da a.dn.length a.dc, .slice a.ha a.hv.length a.hc, .slice a.ga a.gs.length a.gc, .slice a.wa a.wk.length a.wc, .slice a.na a.nt.length a.nc] 29)).alloc (.cells #[.slice b.pa b.ps.length b.pc, .slice b.la b.pl.length b.lc, .int .i64 b.now, .slice b.da b.dn.length b.dc, .slice b.ha b.hv.length b.hc, .slice b.ga b.gs.length b.gc, .slice b.wa b.wk.length b.wc, .slice b.na b.nt.length b.nc] 29)) := by (repeat' (first | exact Below.refl _ _ | assumption | refine Below.setCell ?_ (by first | omega | exact Below.size (by assumption) | (simp; done) | (simp; omega)) _ | refine Below.alloc ?_ (by first | omega | exact Below.size (by assumption) | (simp; done) | (simp; omega)) _ | refine Below.drew ?_ | refine below_drewN ?_ _))
  replace ha := ha.all hB
  replace hb := hb.all hB
  have HEQ := Lib.hid he
  clear he
  go_enter Try.func14, Try.ntmps14
  go_upto_region 1 with (fail)
  obtain ⟨W, hW⟩ : ∃ W', W' = ((w.alloc (.cells #[.slice a.pa a.ps.length a.pc, .slice a.la a.pl.length a.lc, .int .i64 a.now, .slice a.da a.dn.length a.dc, .slice a.ha a.hv.length a.hc, .slice a.ga a.gs.length a.gc, .slice a.wa a.wk.length a.wc, .slice a.na a.nt.length a.nc] 29)).alloc (.cells #[.slice b.pa b.ps.length b.pc, .slice b.la b.pl.length b.lc, .int .i64 b.now, .slice b.da b.dn.length b.dc, .slice b.ha b.hv.length b.hc, .slice b.ga b.gs.length b.gc, .slice b.wa b.wk.length b.wc, .slice b.na b.nt.length b.nc] 29)) := ⟨_, rfl⟩
  obtain ⟨gY, hgY⟩ : ∃ g, g = w.heap.size + 1 := ⟨_, rfl⟩
  obtain ⟨gX, hgX⟩ : ∃ g, g = w.heap.size := ⟨_, rfl⟩
  rw [← hgY] at kY ⊢
  rw [← hgX] at kX ⊢
  rw [← hW] at kX kY ha hb hB ⊢
  clear hW hgY hgX
  have he := HEQ.out
  simp only [FrM.er, Frm.mk.injEq] at he
  obtain ⟨e1, e2, e3, e4, e5, e6, e7, e8⟩ := he
  have l2 : b.pl.length = a.pl.length := by rw [e2]
  have l4 : b.dn.length = a.dn.length := by rw [e4]
  have l6 : b.gs.length = a.gs.length := by rw [e6]
  have l7 : b.wk.length = a.wk.length := by rw [e7]
  have hpl := hb.pl
  have hdn := hb.dn
  have hgs := hb.gs
  have hwk := hb.wk
  rw [← e2] at hpl
  rw [← e4] at hdn
  rw [← e6] at hgs
  rw [← e7] at hwk
  rw [l2, l4, l6, l7] at kY
  have t3 : (a.now == b.now) = true := by rw [e3]; simp
  have C1 : Hid (∀ w', Below W.heap.size W w' → Calls Try.prog 11 #[.slice a.pa a.ps.length a.pc, .slice b.pa b.ps.length b.pc, .func (.func 33) #[] #[]] w' fun e w2 => e = .returned (.bool true) ∧ Below w'.heap.size w' w2) :=
    fun w' h => equalPartsR_same _ _ _ _ _ _ _ (ha.ps.keep h h.size) (hb.ps.keep h h.size) ha.big.1 e1
  have C2 : Hid (∀ w', Below W.heap.size W w' → Calls Try.prog 10 #[.slice a.la a.pl.length a.lc, .slice b.la a.pl.length b.lc] w' fun e w2 => e = .returned (.bool true) ∧ Below w'.heap.size w' w2) :=
    fun w' h => (equalNodes_any _ _ _ _ a.pl a.pl _ ((ha.pl.below h).more h.size) ((hpl.below h).more h.size) ha.big.2.1).mono (by rintro e w2 ⟨rfl, hb2⟩; exact ⟨by simp, hb2⟩)
  have C4 : Hid (∀ w', Below W.heap.size W w' → Calls Try.prog 34 #[.slice a.da a.dn.length a.dc, .slice b.da a.dn.length b.dc] w' fun e w2 => e = .returned (.bool true) ∧ Below w'.heap.size w' w2) :=
    fun w' h => equalBools_same _ _ _ _ a.dn _ ((ha.dn.below h).more h.size) ((hdn.below h).more h.size) ha.big.2.2.1
  have C5 : Hid (∀ w', Below W.heap.size W w' → Calls Try.prog 11 #[.slice a.ha a.hv.length a.hc, .slice b.ha b.hv.length b.hc, .func (.func 33) #[] #[]] w' fun e w2 => e = .returned (.bool true) ∧ Below w'.heap.size w' w2) :=
    fun w' h => equalPartsR_same _ _ _ _ _ _ _ (ha.hv.keep h h.size) (hb.hv.keep h h.size) ha.big.2.2.2.1 e5
  have C6 : Hid (∀ w', Below W.heap.size W w' → Calls Try.prog 35 #[.slice a.ga a.gs.length a.gc, .slice b.ga a.gs.length b.gc] w' fun e w2 => e = .returned (.bool true) ∧ Below w'.heap.size w' w2) :=
    fun w' h => equalGrants_same _ _ _ _ a.gs _ ((ha.gs.below h).more h.size) ((hgs.below h).more h.size) ha.big.2.2.2.2.1
  have C7 : Hid (∀ w', Below W.heap.size W w' → Calls Try.prog 36 #[.slice a.wa a.wk.length a.wc, .slice b.wa a.wk.length b.wc] w' fun e w2 => e = .returned (.bool true) ∧ Below w'.heap.size w' w2) :=
    fun w' h => (equalIntsF_any _ _ _ _ a.wk a.wk _ ((ha.wk.below h).more h.size) ((hwk.below h).more h.size) ha.big.2.2.2.2.2.1).mono (by rintro e w2 ⟨rfl, hb2⟩; exact ⟨by simp, hb2⟩)
  have C8 : Hid (∀ w', Below W.heap.size W w' → Calls Try.prog 37 #[.slice a.na a.nt.length a.nc, .slice b.na b.nt.length b.nc, .func (.func 38) #[] #[]] w' fun e w2 => e = .returned (.bool true) ∧ Below w'.heap.size w' w2) :=
    fun w' h => equalMsgs_same _ _ _ _ _ _ _ ((ha.nt.below h).more h.size) ((hb.nt.below h).more h.size) (fun m hm => (ha.each m hm).keep h h.size) (fun m hm => (hb.each m hm).keep h h.size) ha.big.2.2.2.2.2.2 e8
  clear e1 e2 e3 e4 e5 e6 e7 e8 l2 l4 l6 l7 hpl hdn hgs hwk ha hb
  (have q0 := (kX).cell 0; have q1 := (kX).cell 1; have q2 := (kX).cell 2; have q3 := (kX).cell 3; have q4 := (kX).cell 4; have q5 := (kX).cell 5; have q6 := (kX).cell 6; have q7 := (kX).cell 7)
  (have r0 := (kY).cell 0; have r1 := (kY).cell 1; have r2 := (kY).cell 2; have r3 := (kY).cell 3; have r4 := (kY).cell 4; have r5 := (kY).cell 5; have r6 := (kY).cell 6; have r7 := (kY).cell 7)
  go_wp2_with fail
  refine (C1.out W (Below.refl _ _)).mono ?_
  rintro e w1 ⟨rfl, hb1⟩
  ((clear q0 q1 q2 q3 q4 q5 q6 q7 r0 r1 r2 r3 r4 r5 r6 r7); (have kXn := kX.all hb1); (have kYn := kY.all hb1); (have q0 := (kXn).cell 0; have q1 := (kXn).cell 1; have q2 := (kXn).cell 2; have q3 := (kXn).cell 3; have q4 := (kXn).cell 4; have q5 := (kXn).cell 5; have q6 := (kXn).cell 6; have q7 := (kXn).cell 7); (have r0 := (kYn).cell 0; have r1 := (kYn).cell 1; have r2 := (kYn).cell 2; have r3 := (kYn).cell 3; have r4 := (kYn).cell 4; have r5 := (kYn).cell 5; have r6 := (kYn).cell 6; have r7 := (kYn).cell 7); (clear kXn kYn); go_wp2_with fail)
  refine (C2.out w1 hb1).mono ?_
  rintro e w2 ⟨rfl, hb2'⟩
  have hb2 := hb1.trans (hb2'.mono hb1.size)
  clear hb1 hb2'
  ((clear q0 q1 q2 q3 q4 q5 q6 q7 r0 r1 r2 r3 r4 r5 r6 r7); (have kXn := kX.all hb2); (have kYn := kY.all hb2); (have q0 := (kXn).cell 0; have q1 := (kXn).cell 1; have q2 := (kXn).cell 2; have q3 := (kXn).cell 3; have q4 := (kXn).cell 4; have q5 := (kXn).cell 5; have q6 := (kXn).cell 6; have q7 := (kXn).cell 7); (have r0 := (kYn).cell 0; have r1 := (kYn).cell 1; have r2 := (kYn).cell 2; have r3 := (kYn).cell 3; have r4 := (kYn).cell 4; have r5 := (kYn).cell 5; have r6 := (kYn).cell 6; have r7 := (kYn).cell 7); (clear kXn kYn); go_wp2_with fail)
  refine (C4.out w2 hb2).mono ?_
  rintro e w3 ⟨rfl, hb3'⟩
  have hb3 := hb2.trans (hb3'.mono hb2.size)
  clear hb2 hb3'
  ((clear q0 q1 q2 q3 q4 q5 q6 q7 r0 r1 r2 r3 r4 r5 r6 r7); (have kXn := kX.all hb3); (have kYn := kY.all hb3); (have q0 := (kXn).cell 0; have q1 := (kXn).cell 1; have q2 := (kXn).cell 2; have q3 := (kXn).cell 3; have q4 := (kXn).cell 4; have q5 := (kXn).cell 5; have q6 := (kXn).cell 6; have q7 := (kXn).cell 7); (have r0 := (kYn).cell 0; have r1 := (kYn).cell 1; have r2 := (kYn).cell 2; have r3 := (kYn).cell 3; have r4 := (kYn).cell 4; have r5 := (kYn).cell 5; have r6 := (kYn).cell 6; have r7 := (kYn).cell 7); (clear kXn kYn); go_wp2_with fail)
  refine (C5.out w3 hb3).mono ?_
  rintro e w4 ⟨rfl, hb4'⟩
  have hb4 := hb3.trans (hb4'.mono hb3.size)
  clear hb3 hb4'
  ((clear q0 q1 q2 q3 q4 q5 q6 q7 r0 r1 r2 r3 r4 r5 r6 r7); (have kXn := kX.all hb4); (have kYn := kY.all hb4); (have q0 := (kXn).cell 0; have q1 := (kXn).cell 1; have q2 := (kXn).cell 2; have q3 := (kXn).cell 3; have q4 := (kXn).cell 4; have q5 := (kXn).cell 5; have q6 := (kXn).cell 6; have q7 := (kXn).cell 7); (have r0 := (kYn).cell 0; have r1 := (kYn).cell 1; have r2 := (kYn).cell 2; have r3 := (kYn).cell 3; have r4 := (kYn).cell 4; have r5 := (kYn).cell 5; have r6 := (kYn).cell 6; have r7 := (kYn).cell 7); (clear kXn kYn); go_wp2_with fail)
  refine (C6.out w4 hb4).mono ?_
  rintro e w5 ⟨rfl, hb5'⟩
  have hb5 := hb4.trans (hb5'.mono hb4.size)
  clear hb4 hb5'
  ((clear q0 q1 q2 q3 q4 q5 q6 q7 r0 r1 r2 r3 r4 r5 r6 r7); (have kXn := kX.all hb5); (have kYn := kY.all hb5); (have q0 := (kXn).cell 0; have q1 := (kXn).cell 1; have q2 := (kXn).cell 2; have q3 := (kXn).cell 3; have q4 := (kXn).cell 4; have q5 := (kXn).cell 5; have q6 := (kXn).cell 6; have q7 := (kXn).cell 7); (have r0 := (kYn).cell 0; have r1 := (kYn).cell 1; have r2 := (kYn).cell 2; have r3 := (kYn).cell 3; have r4 := (kYn).cell 4; have r5 := (kYn).cell 5; have r6 := (kYn).cell 6; have r7 := (kYn).cell 7); (clear kXn kYn); go_wp2_with fail)
  refine (C7.out w5 hb5).mono ?_
  rintro e w6 ⟨rfl, hb6'⟩
  have hb6 := hb5.trans (hb6'.mono hb5.size)
  clear hb5 hb6'
  ((clear q0 q1 q2 q3 q4 q5 q6 q7 r0 r1 r2 r3 r4 r5 r6 r7); (have kXn := kX.all hb6); (have kYn := kY.all hb6); (have q0 := (kXn).cell 0; have q1 := (kXn).cell 1; have q2 := (kXn).cell 2; have q3 := (kXn).cell 3; have q4 := (kXn).cell 4; have q5 := (kXn).cell 5; have q6 := (kXn).cell 6; have q7 := (kXn).cell 7); (have r0 := (kYn).cell 0; have r1 := (kYn).cell 1; have r2 := (kYn).cell 2; have r3 := (kYn).cell 3; have r4 := (kYn).cell 4; have r5 := (kYn).cell 5; have r6 := (kYn).cell 6; have r7 := (kYn).cell 7); (clear kXn kYn); go_wp2_with fail)
  refine (C8.out w6 hb6).mono ?_
  rintro e w7 ⟨rfl, hb7'⟩
  have hb7 := hb6.trans (hb7'.mono hb6.size)
  have hBx := hB.trans (hb7.mono hB.size)
  clear hb6 hb7' hb7
  go_wp2
  go_ret
  exact ⟨rfl, hBx⟩
end Go.Proofs.Ytkfmkemjoddinaa
