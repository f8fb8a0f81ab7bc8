/- B1: texts that belong together. -/
import Derived.BigGuardPart
import Derived.BigQuiet
import Derived.Deep.QuietTactic
import Derived.Deep.RegionHeld
import Derived.Handy
import Derived.KernelRfl
import Derived.Laws.BytesArg
import Derived.Laws.Entries
import Derived.Laws.MakeOwn
import Derived.Laws.StructEq
import Derived.Lib.SmallJoins
import Derived.Maps.AppendAt
import Derived.Maps.Own
import Derived.Maps.OwnOps
import Derived.Maps.OwnSet
import Derived.Outline
import Derived.OwnWalk
import Derived.ProofKit
import Derived.RegionTactic
import Derived.SizedLaws
import Derived.Test.YtmlomnhjbmocfaaDoorBA
import Derived.Test.YtmlomnhjbmocfaaDoorChecked
import Derived.WalkKit
import Derived.WalkLawsBesides
import Derived.WalkSpells
set_option linter.all false
/- What every walk needs. -/
namespace Go.Proofs.YtmlomnhjbmocfaaDoor
open Go.RowKit

theorem ret_int {k : IntKind} {a b : Int} (h : a = b) : Ending.returned (.int k a) = .returned (.int k b) := by rw [h]

theorem ret_val {a b : Value} (h : a = b) : Ending.returned a = .returned b := by rw [h]
theorem results_tmp5 {fn : Func} {t u v x y : Tmp} (h : fn.results = #[.tmp t, .tmp u, .tmp v, .tmp x, .tmp y]) (tmps : Array Value) (P : Program) (w : World) :
    (results fn tmps).run P w = .ok (.tuple #[tmps.getD t undef, tmps.getD u undef, tmps.getD v undef, tmps.getD x undef, tmps.getD y undef]) w := by simp [results, h]

theorem ret_two {a a' b b' : Int} (h1 : a = a') (h2 : b = b') : Ending.returned (.tuple #[.int .i64 a, .int .i64 b]) = .returned (.tuple #[.int .i64 a', .int .i64 b']) := by rw [h1, h2]
theorem quiet_left {P : Program} {f : FuncId} {args : Array Value} {w : World} {n : Nat} {v : Value}
    (h : Calls P f args (w.drewN n) fun e w' => e = .returned v ∧ w.drewN n = w') : Calls P f args (w.drewN n) fun e w'' => e = .returned v ∧ ∃ m, w'' = w.drewN m :=
  h.mono fun _ _ ⟨he, hm⟩ => ⟨he, n, hm.symm⟩

theorem quiet_stay {P : Program} {f : FuncId} {args : Array Value} {w : World} {n : Nat} {v : Value}
    (h : Calls P f args (w.drewN n) fun e w' => e = .returned v ∧ w.drewN n = w') : Calls P f args (w.drewN n) fun e w'' => e = .returned v ∧ ∃ m, w'' = w.drewN m :=
  h.mono fun _ _ ⟨he, hm⟩ => ⟨he, n, hm.symm⟩

theorem emod_of_tmod (k n : Int) (hn : 0 < n) : k % n = if k.tmod n < 0 then k.tmod n + n else k.tmod n := by
  have h1 : k % n = (k.tmod n) % n := by
    conv => lhs; rw [← Int.mul_tdiv_add_tmod k n]
    rw [Int.add_comm, Int.add_mul_emod_self_left]
  have h2 : k.tmod n < n := Int.tmod_lt_of_pos k hn
  have h3 : -n < k.tmod n := by
    have := Int.tmod_lt_of_pos (-k) hn
    rw [Int.neg_tmod] at this
    omega
  rw [h1]
  split
  · rw [← Int.add_emod_right, Int.emod_eq_of_lt (by omega) (by omega)]
  · exact Int.emod_eq_of_lt (by omega) (by omega)
theorem tmod_bounds (k n : Int) (hn : 0 < n) : -n < k.tmod n ∧ k.tmod n < n := by
  refine ⟨?_, Int.tmod_lt_of_pos k hn⟩
  have := Int.tmod_lt_of_pos (-k) hn
  rw [Int.neg_tmod] at this
  omega

theorem Tryd.infoByte : (Tryd.prog.info? 5).map (fun i => (i.zero, i.size, i.bytes)) = some (some (.int .u8 0), 1, 1) := by kernel_rfl

theorem Tryd.infoInt : (Tryd.prog.info? 3).map (fun i => (i.zero, i.size, i.bytes)) = some (some (.int .i64 0), 1, 8) := by kernel_rfl
end Go.Proofs.YtmlomnhjbmocfaaDoor

/- append onto a row of the call's own, the source nil, empty or not: the guide's words for memory, turned to this claim's 'Reads'. No program in sight. -/
namespace Go.Proofs.YtmlomnhjbmocfaaDoor
open Go.RowKit

section
variable {P : Program} (w : World)

theorem run_append_of_nil (base : Nat) (t ty e : TypeId) (i : TypeInfo) (size : Nat) (ht : P.underlying t = some (.slice e)) (hi : P.info? e = some i)
    (v : Value) (n : Nat) (xs : List Value) (hown : w.ownsRow base e size v n xs) (c : Nat) : (Builtin.append_ #[t, t] ty #[v, .slice none 0 c]).run P w = .ok v w := by
  rcases hown.2 with ⟨rfl, rfl⟩ | ⟨g, cap, cur, rfl, _, _, hnc, _⟩
  · simp [Builtin.append_, run_underlying ht, sizeOf, typeInfo, hi, Builtin.lenOf, Builtin.firstCells]
  · simp [Builtin.append_, run_underlying ht, sizeOf, typeInfo, hi, Builtin.lenOf, Builtin.firstCells, hnc, storeCells]

theorem run_append_any (base : Nat) (t ty e : TypeId) (i : TypeInfo) (z : Value) (size bytes : Nat) (ht : P.underlying t = some (.slice e)) (hi : P.info? e = some i) (hz : i.zero = some z)
    (hsize : i.size = size) (hby : i.bytes = bytes) (hzs : z.cells.size = size) (hsz : 0 < size)
    (v : Value) (n : Nat) (xs : List Value) (hown : w.ownsRow base e size v n xs)
    (B : Nat) (A : Option Addr) (m c : Nat) (news : List Value) (hr : Reads w B size A m news) (h1 : ∀ u ∈ news, u.oneCell' = true)
    (h63 : n + m ≤ maxLen) (hbytes : (n + m) * bytes ≤ 140737488355328) (hbase : base ≤ w.heap.size) :
    ∃ v' w', (Builtin.append_ #[t, t] ty #[v, .slice A m c]).run P w = .ok v' w' ∧ w'.ownsRow base e size v' (n + m) (xs ++ news) ∧ w.grownBy w' v.ownBlock ∧
      (v'.ownBlock = v.ownBlock ∨ v'.ownBlock = some w.heap.size) := by
  rcases A with _ | ad
  · have hm : m = 0 := by
      rcases Nat.eq_zero_or_pos m with h0 | h0
      · exact h0
      · obtain ⟨b, off, h, _⟩ := hr.2 h0
        cases h
    subst hm
    have hn : news = [] := List.eq_nil_of_length_eq_zero (by simpa using hr.1)
    subst hn
    exact ⟨v, w, run_append_of_nil w base t ty e i size ht hi v n xs hown c, by simpa using hown, World.grownBy.refl w _, .inl rfl⟩
  · have hcells : ∀ j u, news[j]? = some u → w.cell? (ad.add j) = some u := by
      intro j u hu
      rcases Nat.eq_zero_or_pos m with h0 | h0
      · subst h0
        have hn : news = [] := List.eq_nil_of_length_eq_zero (by simpa using hr.1)
        subst hn
        simp at hu
      · obtain ⟨b, off, h, _, hc⟩ := hr.2 h0
        injection h with h
        subst h
        rw [add_none]
        exact hc j u hu
    obtain ⟨v', w', hrun, h2, h3, _, h5⟩ := run_append_own_at (P := P) w base t ty e i z size bytes ht hi hz hsize hby hzs hsz v n xs hown ad m c news hr.1 hcells h1 h63 hbytes hbase
    exact ⟨v', w', hrun, h2, h3, h5⟩

theorem wp_append_any {o : Oper} {a : Act} {K : Act → World → Prop} {Q : Exit → Act → World → Prop} (s x : Operand) (t : TypeId)
    (ho : o.op = .call { callee := .builtin .append, args := #[s, x], argTypes := #[t, t] })
    (base : Nat) (e : TypeId) (i : TypeInfo) (z : Value) (size bytes : Nat) (ht : P.underlying t = some (.slice e)) (hi : P.info? e = some i) (hz : i.zero = some z)
    (hsize : i.size = size) (hby : i.bytes = bytes) (hzs : z.cells.size = size) (hsz : 0 < size)
    (v : Value) (n : Nat) (xs : List Value) (hs : a.eval s = v) (hown : w.ownsRow base e size v n xs)
    (B : Nat) (A : Option Addr) (m c : Nat) (news : List Value) (hx : a.eval x = .slice A m c) (hr : Reads w B size A m news) (h1 : ∀ u ∈ news, u.oneCell' = true)
    (h63 : n + m ≤ maxLen) (hbytes : (n + m) * bytes ≤ 140737488355328) (hbase : base ≤ w.heap.size)
    (h : ∀ v' w', w'.ownsRow base e size v' (n + m) (xs ++ news) → w.grownBy w' v.ownBlock → (v'.ownBlock = v.ownBlock ∨ v'.ownBlock = some w.heap.size) → K (a.put o.dst v') w') : o.wp P a w K Q := by
  obtain ⟨v', w', hrun, h2, h3, h4⟩ := run_append_any (P := P) w base t o.type e i z size bytes ht hi hz hsize hby hzs hsz v n xs hown B A m c news hr h1 h63 hbytes hbase
  unfold Oper.wp execOp
  simp only [ho, resolve, invoke, builtin, Sem.run_bind, Sem.run_pure, Result.andThen_ok, List.map_toArray, List.map_cons, List.map_nil, hs, hx, hrun]
  exact h v' w' h2 h3 h4

theorem wpList_append_any {ops : Array Oper} {rest : List Oper} {o : Oper} {a : Act} {Q : Exit → Act → World → Prop} (hgd : o.guard = none) (s x : Operand) (t : TypeId)
    (ho : o.op = .call { callee := .builtin .append, args := #[s, x], argTypes := #[t, t] })
    (base : Nat) (e : TypeId) (i : TypeInfo) (z : Value) (size bytes : Nat) (ht : P.underlying t = some (.slice e)) (hi : P.info? e = some i) (hz : i.zero = some z)
    (hsize : i.size = size) (hby : i.bytes = bytes) (hzs : z.cells.size = size) (hsz : 0 < size)
    (v : Value) (n : Nat) (xs : List Value) (hs : a.eval s = v) (hown : w.ownsRow base e size v n xs)
    (B : Nat) (A : Option Addr) (m c : Nat) (news : List Value) (hx : a.eval x = .slice A m c) (hr : Reads w B size A m news) (h1 : ∀ u ∈ news, u.oneCell' = true)
    (h63 : n + m ≤ maxLen) (hbytes : (n + m) * bytes ≤ 140737488355328) (hbase : base ≤ w.heap.size)
    (h : ∀ v' w', w'.ownsRow base e size v' (n + m) (xs ++ news) → w.grownBy w' v.ownBlock → (v'.ownBlock = v.ownBlock ∨ v'.ownBlock = some w.heap.size) → wpList P ops Q rest (a.put o.dst v') w') : wpList P ops Q (o :: rest) a w :=
  wpList_plain hgd fun _ hK => wp_append_any w s x t ho base e i z size bytes ht hi hz hsize hby hzs hsz v n xs hs hown B A m c news hx hr h1 h63 hbytes hbase fun v' w' h2 h3 h4 => hK _ _ (h v' w' h2 h3 h4)

theorem step_append_any {ops : Array Oper} {o : Oper} {a : Act} {K : Act → World → Prop} {Q : Exit → Act → World → Prop} {E : Prop} (hgd : o.guard = none) (s x : Operand) (t : TypeId)
    (ho : o.op = .call { callee := .builtin .append, args := #[s, x], argTypes := #[t, t] })
    (base : Nat) (e : TypeId) (i : TypeInfo) (z : Value) (size bytes : Nat) (ht : P.underlying t = some (.slice e)) (hi : P.info? e = some i) (hz : i.zero = some z)
    (hsize : i.size = size) (hby : i.bytes = bytes) (hzs : z.cells.size = size) (hsz : 0 < size)
    (v : Value) (n : Nat) (xs : List Value) (hs : a.eval s = v) (hown : w.ownsRow base e size v n xs)
    (B : Nat) (A : Option Addr) (m c : Nat) (news : List Value) (hx : a.eval x = .slice A m c) (hr : Reads w B size A m news) (h1 : ∀ u ∈ news, u.oneCell' = true)
    (h63 : n + m ≤ maxLen) (hbytes : (n + m) * bytes ≤ 140737488355328) (hbase : base ≤ w.heap.size)
    (h : ∀ v' w', w'.ownsRow base e size v' (n + m) (xs ++ news) → w.grownBy w' v.ownBlock → (v'.ownBlock = v.ownBlock ∨ v'.ownBlock = some w.heap.size) → K (a.put o.dst v') w') :
    if Region.wanted o (yielded ops a.tmps) = true then Oper.wp P o a w K Q else E := by
  have hw : Region.wanted o (yielded ops a.tmps) = true := by simp [Region.wanted, hgd]
  rw [if_pos hw]
  exact wp_append_any w s x t ho base e i z size bytes ht hi hz hsize hby hzs hsz v n xs hs hown B A m c news hx hr h1 h63 hbytes hbase h
end

end Go.Proofs.YtmlomnhjbmocfaaDoor

/- obj.Wide: what it computes. -/
namespace Go.Proofs.YtmlomnhjbmocfaaDoor
open Go.RowKit

set_option maxHeartbeats 400000 in
theorem wide_any (k : Int) (w : World) :
    Calls Tryd.prog 106 #[.int .i64 k] w fun e w' => e = .returned (.int .i64 (wideOf k)) ∧ w = w' := by
  rcases kinds_split k with rfl | rfl | rfl | rfl | ⟨h1, h2, h3, h4⟩
  · go_enter Tryd.func106, Tryd.ntmps106
    go_wp2
    go_ret
    exact ⟨rfl, rfl⟩
  · go_enter Tryd.func106, Tryd.ntmps106
    go_wp2
    go_ret
    exact ⟨rfl, rfl⟩
  · go_enter Tryd.func106, Tryd.ntmps106
    go_wp2
    go_ret
    exact ⟨rfl, rfl⟩
  · go_enter Tryd.func106, Tryd.ntmps106
    go_wp2
    go_ret
    exact ⟨rfl, rfl⟩
  · have b1 : (k == 1) = false := by simpa using h1
    have b2 : (k == 2) = false := by simpa using h2
    have b3 : (k == 3) = false := by simpa using h3
    have b4 : (k == 4) = false := by simpa using h4
    have e1 : wideOf k = 0 := by simp [wideOf, h1, h2, h3, h4]
    have E1 := Lib.hid e1
    clear e1 h1 h2 h3 h4
    go_enter Tryd.func106, Tryd.ntmps106
    go_wp2
    go_ret
    exact ⟨ret_val (by rw [E1.out]; rfl), rfl⟩
end Go.Proofs.YtmlomnhjbmocfaaDoor

/- bytes.Equal over slices that read as lists. -/
namespace Go.Proofs.YtmlomnhjbmocfaaDoor
open Go.RowKit

theorem bytesV_ints (l : List UInt8) : bytesV l = (l.map fun b => ((b.toNat : Nat) : Int)).map (Value.int .u8) := by
  simp [bytesV, byteV]
theorem strOf_bytes (l : List UInt8) : (l.map fun b => ((b.toNat : Nat) : Int)).foldl (fun r n => r.push (UInt8.ofNat n.toNat)) ByteArray.empty = ⟨l.toArray⟩ := by
  rw [foldl_push_bytes]
  have hid : ∀ l : List UInt8, l.map (fun b : UInt8 => UInt8.ofNat ((b.toNat : Nat) : Int).toNat) = l := fun l => by
    induction l with
    | nil => rfl
    | cons b l ih => rw [List.map_cons, ih]; simp
  rw [List.map_map]
  show (⟨ByteArray.empty.data ++ (l.map (fun b : UInt8 => UInt8.ofNat ((b.toNat : Nat) : Int).toNat)).toArray⟩ : ByteArray) = _
  rw [hid]
  simp [ByteArray.empty, ByteArray.emptyWithCapacity]
  rfl
/-- A conversion of bytes to a string, of whatever slice reads as a list. -/
theorem conv_reads {P : Program} {w : World} {B : Nat} {A : Option Addr} {l : List UInt8} (h : Reads w B 1 A l.length (bytesV l)) (c : Nat) {src dst e : TypeId}
    (hs : P.underlying src = some (.slice e)) (he : P.underlying e = some (.int .u8)) (hd : P.underlying dst = some .string) :
    (convert src dst (.slice A l.length c)).run P w = .ok (.string ⟨l.toArray⟩) w := by
  rw [run_convert_bytes_string w src dst e A l.length c hs he hd]
  rcases A with _ | ad
  · have : l.length = 0 := by
      rcases Nat.eq_zero_or_pos l.length with h0 | h0
      · exact h0
      · obtain ⟨b, off, e, _⟩ := h.2 h0
        cases e
    have hl : l = [] := List.eq_nil_of_length_eq_zero this
    subst hl
    simp [Conv.bytesToString]
    rfl
  · have hl : (loadCells ad l.length).run P w = .ok ((l.map fun b => ((b.toNat : Nat) : Int)).map (Value.int .u8)).toArray w := by
      rw [← bytesV_ints]
      have := run_loadCells_list (P := P) w ad (bytesV l) (fun j v hj => by
        have hlt : j < (bytesV l).length := (List.getElem?_eq_some_iff.1 hj).1
        obtain ⟨b, off, e, _, hc⟩ := h.2 (by have := h.1; omega)
        injection e with e
        subst e
        rw [add_none]
        exact hc j v hj)
      have hlen : (bytesV l).length = l.length := by simp [bytesV]
      rw [hlen] at this
      exact this
    rw [run_bytesToString w ad _ c _ hl, strOf_bytes]

set_option maxHeartbeats 1000000 in
theorem bytesEqual_any (A A' : Option Addr) (c c' : Nat) (l l' : List UInt8) (w : World) (h : Reads w w.heap.size 1 A l.length (bytesV l)) (h' : Reads w w.heap.size 1 A' l'.length (bytesV l')) :
    Calls Tryd.prog 36 #[.slice A l.length c, .slice A' l'.length c'] w fun e w' => e = .returned (.bool (l == l')) ∧ w' = w := by
  have e1 := conv_reads h c Tryd.underlying60 Tryd.underlying5 Tryd.underlying9
  have e2 := conv_reads h' c' Tryd.underlying60 Tryd.underlying5 Tryd.underlying9
  go_enter Tryd.func36, Tryd.ntmps36
  go_wp2
  go_ret
  exact ⟨rfl, rfl⟩
end Go.Proofs.YtmlomnhjbmocfaaDoor

/- slices.Equal over ints. -/
namespace Go.Proofs.YtmlomnhjbmocfaaDoor
open Go.RowKit

set_option maxHeartbeats 1000000 in
theorem equalInts_any (A A' : Option Addr) (c c' : Nat) (l l' : List Int) (w : World) (h : Reads w w.heap.size 1 A l.length (intsV l)) (h' : Reads w w.heap.size 1 A' l'.length (intsV l')) (hm : l.length ≤ 9223372036854775807) :
    Calls Tryd.prog 39 #[.slice A l.length c, .slice A' l'.length c'] w fun e w' => e = .returned (.bool (l == l')) ∧ Below w.heap.size w w' := by
  by_cases hlen : l.length = l'.length
  · have hne : ((l.length : Int) != (l'.length : Int)) = false := by rw [hlen]; simp
    have HL := Lib.hid hlen
    have l0 : l.length ≤ l'.length := by omega
    clear hlen
    go_enter Tryd.func39, Tryd.ntmps39
    go_wp2
    go_loopw [13] (fun i wr => ∃ k : Nat, k ≤ l.length ∧ i = .int .i64 k ∧ Hid (l.take k = l'.take k) ∧ Below w.heap.size w wr) (fun i _ => l.length - (intOf i).toNat)
    case atStart => exact ⟨0, Nat.zero_le _, rfl, rfl, Below.refl _ _⟩
    case round =>
      obtain ⟨k, hk, rfl, htk, hb⟩ := hrel
      by_cases hlt : k < l.length
      · have hlt' : k < l'.length := by omega
        obtain ⟨b, off, u, rfl, _, hu, hc⟩ := (h.below hb).at_ hlt
        rw [show (intsV l)[k]? = some (intV l[k]) by simp [intsV, hlt]] at hu
        cases hu
        obtain ⟨b', off', u, rfl, _, hu, hc'⟩ := (h'.below hb).at_ hlt'
        rw [show (intsV l')[k]? = some (intV l'[k]) by simp [intsV, hlt']] at hu
        cases hu
        obtain ⟨x, hx⟩ : ∃ x, l[k] = x := ⟨_, rfl⟩
        obtain ⟨y, hy⟩ : ∃ y, l'[k] = y := ⟨_, rfl⟩
        have HX := Lib.hid hx
        have HY := Lib.hid hy
        rw [hx] at hc
        rw [hy] at hc'
        clear hx hy
        unfold intV at hc hc'
        by_cases hxy : x = y
        · have hn : (x != y) = false := by rw [hxy]; simp
          have HXY := Lib.hid hxy
          clear hxy
          go_wp2
          go_quiet (fail)
          go_wp2
          go_roundw
          case rel => exact ⟨k + 1, by omega, by go_num, by show l.take (k + 1) = l'.take (k + 1); rw [List.take_succ_eq_append_getElem hlt, List.take_succ_eq_append_getElem hlt', htk.out, HX.out, HY.out, HXY.out], by (repeat' (first | exact Below.refl _ _ | assumption | refine Below.setCell ?_ (by first | omega | exact Below.size (by assumption) | (simp; done) | (simp; omega)) _ | refine Below.alloc ?_ (by first | omega | exact Below.size (by assumption) | (simp; done) | (simp; omega)) _ | refine Below.drew ?_ | refine below_drewN ?_ _))⟩
          case measure => simp [intOf]; omega
        · have hn : (x != y) = true := by simpa using hxy
          have HXY := Lib.hid hxy
          clear hxy
          go_wp2
          go_quiet (fail)
          go_wp2
          go_ret
          refine ⟨ret_val (by
            have : (l == l') = false := by
              rw [beq_eq_false_iff_ne]
              intro e
              subst e
              exact HXY.out (HX.out.symm.trans HY.out)
            rw [this]; rfl), by (repeat' (first | exact Below.refl _ _ | assumption | refine Below.setCell ?_ (by first | omega | exact Below.size (by assumption) | (simp; done) | (simp; omega)) _ | refine Below.alloc ?_ (by first | omega | exact Below.size (by assumption) | (simp; done) | (simp; omega)) _ | refine Below.drew ?_ | refine below_drewN ?_ _))⟩
      · go_wp2
        go_ret
        refine ⟨ret_val (by
          have hk' : k = l.length := by omega
          have : l = l' := by
            have := htk.out
            rw [hk', List.take_length] at this
            rw [HL.out, List.take_length] at this
            exact this
          rw [this]; simp), by (repeat' (first | exact Below.refl _ _ | assumption | refine Below.setCell ?_ (by first | omega | exact Below.size (by assumption) | (simp; done) | (simp; omega)) _ | refine Below.alloc ?_ (by first | omega | exact Below.size (by assumption) | (simp; done) | (simp; omega)) _ | refine Below.drew ?_ | refine below_drewN ?_ _))⟩
  · have hne : ((l.length : Int) != (l'.length : Int)) = true := by simp; omega
    have HL := Lib.hid hlen
    clear hlen
    go_enter Tryd.func39, Tryd.ntmps39
    go_wp2
    go_ret
    refine ⟨ret_val (by
      have : (l == l') = false := by
        rw [beq_eq_false_iff_ne]
        intro e
        exact HL.out (by rw [e])
      rw [this]; rfl), Below.refl _ _⟩

end Go.Proofs.YtmlomnhjbmocfaaDoor

/- slices.Index, Contains over ints; ropewalkref.IsAlign. -/
namespace Go.Proofs.YtmlomnhjbmocfaaDoor
open Go.RowKit

/-- The first place of a number in a list, or -1. -/
def indexI (s : Int) (l : List Int) : Int := match l.findIdx? (fun t => t == s) with
  | some k => k
  | none => -1
theorem indexI_in {s : Int} {l : List Int} : decide (0 ≤ indexI s l) = decide (s ∈ l) := by
  unfold indexI
  rcases h : l.findIdx? (fun t => t == s) with _ | k
  · have : s ∉ l := fun hm => by
      have := List.findIdx?_eq_none_iff.1 h s hm
      simp at this
    simp [this]
  · have : s ∈ l := by
      rw [List.findIdx?_eq_some_iff_getElem] at h
      obtain ⟨hk, he, _⟩ := h
      have : l[k] = s := by simpa using he
      rw [← this]; exact List.getElem_mem hk
    simp [this]
theorem indexI_at {s : Int} {l : List Int} {k : Nat} (hn : ∀ x ∈ l.take k, x ≠ s) (hk : l[k]? = some s) : indexI s l = k := by
  obtain ⟨hlt, hv⟩ := List.getElem?_eq_some_iff.1 hk
  have : l.findIdx? (fun t => t == s) = some k := by
    rw [List.findIdx?_eq_some_iff_getElem]
    refine ⟨hlt, by simp [hv], fun j hj => ?_⟩
    have := hn l[j] (by rw [List.mem_take_iff_getElem]; exact ⟨j, by omega, rfl⟩)
    simpa using this
  unfold indexI
  rw [this]
theorem indexI_no {s : Int} {l : List Int} (hn : ∀ x ∈ l, x ≠ s) : indexI s l = -1 := by
  have : l.findIdx? (fun t => t == s) = none := List.findIdx?_eq_none_iff.2 fun x hx => by simpa using hn x hx
  unfold indexI
  rw [this]

set_option maxHeartbeats 1000000 in
theorem indexItr_any (A : Option Addr) (c : Nat) (l : List Int) (s : Int) (w : World) (h : Reads w w.heap.size 1 A l.length (intsV l)) (hm : l.length ≤ 9223372036854775807) :
    Calls Tryd.prog 109 #[.slice A l.length c, .int .i64 s] w fun e w' => e = .returned (.int .i64 (indexI s l)) ∧ w = w' := by
  go_enter Tryd.func109, Tryd.ntmps109
  go_wp2
  go_loop [8] (fun i => ∃ k : Nat, k ≤ l.length ∧ i = .int .i64 k ∧ Hid (∀ x ∈ l.take k, x ≠ s)) (fun i => l.length - (intOf i).toNat)
  case atStart => exact ⟨0, Nat.zero_le _, rfl, Lib.hid (by simp)⟩
  case round =>
    obtain ⟨k, hk, rfl, hn⟩ := hrel
    by_cases hlt : k < l.length
    · obtain ⟨b, off, u, rfl, _, hu, hc⟩ := h.at_ hlt
      obtain ⟨x, hx⟩ : ∃ x, l[k]? = some x := ⟨_, List.getElem?_eq_getElem hlt⟩
      rw [show (intsV l)[k]? = some (intV x) by simp [intsV, hx]] at hu
      cases hu
      unfold intV at hc
      have HX := Lib.hid hx
      clear hx
      by_cases hxs : s = x
      · have ht : (s == x) = true := by rw [hxs]; simp
        subst hxs
        have HI := Lib.hid (indexI_at hn.out HX.out)
        go_wp2
        go_ret
        exact ⟨ret_val (by rw [HI.out]; rfl), rfl⟩
      · have ht : (s == x) = false := beq_eq_false_iff_ne.2 hxs
        have HXS := Lib.hid hxs
        clear hxs
        go_wp2
        go_round
        case rel =>
          refine ⟨k + 1, by omega, by go_num, Lib.hid ?_⟩
          rw [List.take_add_one, HX.out]
          intro y hy
          rcases List.mem_append.1 hy with hy | hy
          · exact hn.out y hy
          · obtain rfl : y = x := by simpa using hy
            exact fun e => HXS.out e.symm
        case measure => simp [intOf]; omega
    · obtain rfl : k = l.length := by omega
      have HI := Lib.hid (indexI_no (s := s) (l := l) (by have := hn.out; rwa [List.take_length] at this))
      go_wp2
      go_ret
      exact ⟨ret_val (by rw [HI.out]; rfl), rfl⟩

set_option maxHeartbeats 1000000 in
theorem containsInt_any (A : Option Addr) (c : Nat) (l : List Int) (s : Int) (w : World) (h : Reads w w.heap.size 1 A l.length (intsV l)) (hm : l.length ≤ 9223372036854775807) :
    Calls Tryd.prog 77 #[.slice A l.length c, .int .i64 s] w fun e w' => e = .returned (.bool (decide (s ∈ l))) ∧ w = w' := by
  obtain ⟨n, hn⟩ : ∃ n, indexI s l = n := ⟨_, rfl⟩
  have HN := Lib.hid (indexI_in (s := s) (l := l))
  have HI := indexItr_any A c l s w h hm
  rw [hn] at HN HI
  clear hn
  go_enter Tryd.func77, Tryd.ntmps77
  go_wp2_with fail
  refine HI.mono ?_
  rintro e w' ⟨rfl, rfl⟩
  go_wp2
  go_ret
  exact ⟨ret_val (by rw [← HN.out]; rfl), rfl⟩


set_option maxHeartbeats 1000000 in
theorem isAlign_any (n : Int) (w : World) : Calls Tryd.prog 33 #[.int .i64 n] w fun e w' => e = .returned (.bool (alignB n)) ∧ Below w.heap.size w w' := by
  have hb : Below w.heap.size w (w.alloc (.cells #[.int .i64 1, .int .i64 2, .int .i64 4, .int .i64 8] 3)) := by (repeat' (first | exact Below.refl _ _ | assumption | refine Below.setCell ?_ (by first | omega | exact Below.size (by assumption) | (simp; done) | (simp; omega)) _ | refine Below.alloc ?_ (by first | omega | exact Below.size (by assumption) | (simp; done) | (simp; omega)) _ | refine Below.drew ?_ | refine below_drewN ?_ _))
  have hr := (Blk.new w 3 #[.int .i64 1, .int .i64 2, .int .i64 4, .int .i64 8]).reads (size := 1) (n := 4) rfl
  have HC := Lib.hid (containsInt_any (some ⟨w.heap.size, 0, none⟩) 4 [1, 2, 4, 8] n _ hr (by simp))
  have HA : Hid (decide (n ∈ [1, 2, 4, 8]) = alignB n) := by
    show _ = _
    unfold alignB
    rw [Bool.eq_iff_iff]
    simp [or_assoc]
  rw [HA.out] at HC
  go_enter Tryd.func33, Tryd.ntmps33
  go_wp2_with fail
  refine HC.out.mono ?_
  rintro e w' ⟨rfl, rfl⟩
  go_wp2
  go_ret
  exact ⟨rfl, hb⟩
end Go.Proofs.YtmlomnhjbmocfaaDoor

/- Map literals with int keys, made and asked in one call: run equations. No program in sight. -/
namespace Go.Proofs.YtmlomnhjbmocfaaDoor
open Go.RowKit

section
variable {P : Program} {T K E : TypeId}
theorem run_checkKey_int (b : Bool) (n : Nat) (hK : P.underlying K = some (.int .i64)) (k : Int) (w : World) : (Instr.checkKey b (n + 1) K (.int .i64 k)).run P w = .ok () w := by
  simp [Instr.checkKey, run_underlying hK]
theorem run_findKey_int (hK : P.underlying K = some (.int .i64)) (k : Value) (es : List MapEntry) (r : Option (Nat × Value)) (h : Instr.findNow (.int .i64) k es 0 = some r) (w : World) :
    (Instr.findKey K k es).run P w = .ok r w := by
  simp [Instr.findKey, run_underlying hK, h]
theorem run_getObj_map (es : Array MapEntry) (c : Nat) (w : World) : (getObj w.heap.size).run P (w.alloc (.map es c)) = .ok (.map es c) (w.alloc (.map es c)) := by
  have : (w.alloc (.map es c)).heap[w.heap.size]? = some (.map es c) := heap_alloc_new w _
  unfold getObj Sem.run
  rw [this]
  rfl
theorem push_set {α : Type} (a : Array α) (x y : α) : (a.push x).setIfInBounds a.size y = a.push y := by
  apply Array.ext_getElem?
  intro i
  rw [Array.getElem?_setIfInBounds, Array.getElem?_push, Array.getElem?_push]
  by_cases h : a.size = i
  · subst h; simp
  · rw [if_neg h, if_neg (fun e => h e.symm), if_neg (fun e => h e.symm)]
theorem run_setObj_map (es es' : Array MapEntry) (c c' : Nat) (w : World) : (setObj w.heap.size (.map es' c')).run P (w.alloc (.map es c)) = .ok () (w.alloc (.map es' c')) := by
  have : (w.alloc (.map es c)).heap[w.heap.size]? = some (.map es c) := heap_alloc_new w _
  unfold setObj Sem.run
  rw [this]
  show Result.ok () { (w.alloc (.map es c)) with heap := (w.heap.push (.map es c)).setIfInBounds w.heap.size (.map es' c') } = _
  rw [push_set]
  rfl
theorem run_insert_lit (hT : P.underlying T = some (.map K E)) (hK : P.underlying K = some (.int .i64)) (es : Array MapEntry) (c : Nat) (k : Int) (v : Value)
    (hf : Instr.findNow (.int .i64) (.int .i64 k) es.toList 0 = some none) (w : World) :
    (Instr.mapUpdate T (.map (some w.heap.size)) (.int .i64 k) v).run P (w.alloc (.map es c)) = .ok () (w.alloc (.map (es.push { key := .int .i64 k, val := v, born := c }) (c + 1))) := by
  simp [Instr.mapUpdate, run_underlying hT, run_getObj_map, run_checkKey_int false 9999 hK, run_findKey_int hK _ _ _ hf, run_setObj_map]
theorem run_lookup_lit (hT : P.underlying T = some (.map K E)) (hK : P.underlying K = some (.int .i64)) (es : Array MapEntry) (c : Nat) (k : Int) (i : Nat) (v : Value)
    (hf : Instr.findNow (.int .i64) (.int .i64 k) es.toList 0 = some (some (i, v))) (ok : Bool) (w : World) :
    (Instr.lookup T (.map (some w.heap.size)) (.int .i64 k) ok).run P (w.alloc (.map es c)) = .ok (if ok then .tuple #[v, .bool true] else v) (w.alloc (.map es c)) := by
  simp [Instr.lookup, run_underlying hT, run_getObj_map, run_checkKey_int _ 9999 hK, run_findKey_int hK _ _ _ hf]
theorem run_lookup_not (hT : P.underlying T = some (.map K E)) (hK : P.underlying K = some (.int .i64)) (es : Array MapEntry) (c : Nat) (k : Int) (z : Value) (hz : ∀ w, (zeroValue E).run P w = .ok z w)
    (hf : Instr.findNow (.int .i64) (.int .i64 k) es.toList 0 = some none) (ok : Bool) (w : World) :
    (Instr.lookup T (.map (some w.heap.size)) (.int .i64 k) ok).run P (w.alloc (.map es c)) = .ok (if ok then .tuple #[z, .bool false] else z) (w.alloc (.map es c)) := by
  simp [Instr.lookup, run_underlying hT, run_getObj_map, run_checkKey_int _ 9999 hK, run_findKey_int hK _ _ _ hf, hz]
end
end Go.Proofs.YtmlomnhjbmocfaaDoor

/- ropewalkref.WideOf: what it computes. -/
namespace Go.Proofs.YtmlomnhjbmocfaaDoor
open Go.RowKit

def me (k : Int) (v : Value) (n : Nat) : MapEntry := { key := .int .i64 k, val := v, born := n }
def vi (n : Int) : Value := .int .i64 n
def wideEs : Array MapEntry := #[me 1 (vi 1) 0, me 2 (vi 2) 1, me 3 (vi 1) 2, me 4 (vi 2) 3]

section
variable (w : World)
theorem wide_i1 : (Instr.mapUpdate 155 (.map (some w.heap.size)) (.int .i64 1) (.int .i64 1)).run Tryd.prog (w.alloc (.map #[] 0)) = .ok () (w.alloc (.map #[me 1 (vi 1) 0] 1)) :=
  run_insert_lit Tryd.underlying155 Tryd.underlying3 #[] 0 1 (vi 1) rfl w
theorem wide_i2 : (Instr.mapUpdate 155 (.map (some w.heap.size)) (.int .i64 2) (.int .i64 2)).run Tryd.prog (w.alloc (.map #[me 1 (vi 1) 0] 1)) = .ok () (w.alloc (.map #[me 1 (vi 1) 0, me 2 (vi 2) 1] 2)) :=
  run_insert_lit Tryd.underlying155 Tryd.underlying3 _ 1 2 (vi 2) rfl w
theorem wide_i3 : (Instr.mapUpdate 155 (.map (some w.heap.size)) (.int .i64 3) (.int .i64 1)).run Tryd.prog (w.alloc (.map #[me 1 (vi 1) 0, me 2 (vi 2) 1] 2)) = .ok () (w.alloc (.map #[me 1 (vi 1) 0, me 2 (vi 2) 1, me 3 (vi 1) 2] 3)) :=
  run_insert_lit Tryd.underlying155 Tryd.underlying3 _ 2 3 (vi 1) rfl w
theorem wide_i4 : (Instr.mapUpdate 155 (.map (some w.heap.size)) (.int .i64 4) (.int .i64 2)).run Tryd.prog (w.alloc (.map #[me 1 (vi 1) 0, me 2 (vi 2) 1, me 3 (vi 1) 2] 3)) = .ok () (w.alloc (.map wideEs 4)) :=
  run_insert_lit Tryd.underlying155 Tryd.underlying3 _ 3 4 (vi 2) rfl w
end

theorem find_not {k : Int} {a b c d : Value} (h1 : k ≠ 1) (h2 : k ≠ 2) (h3 : k ≠ 3) (h4 : k ≠ 4) : Instr.findNow (.int .i64) (.int .i64 k) [me 1 a 0, me 2 b 1, me 3 c 2, me 4 d 3] 0 = some none := by
  have b1 : (k == 1) = false := by simpa using h1
  have b2 : (k == 2) = false := by simpa using h2
  have b3 : (k == 3) = false := by simpa using h3
  have b4 : (k == 4) = false := by simpa using h4
  simp [me, Instr.findNow, Instr.sameNow, b1, b2, b3, b4]
theorem zero_int (w : World) : (zeroValue 3).run Tryd.prog w = .ok (.int .i64 0) w := by kernel_rfl

theorem wide_look (k : Int) (w : World) : (Instr.lookup 155 (.map (some w.heap.size)) (.int .i64 k) false).run Tryd.prog (w.alloc (.map wideEs 4)) = .ok (.int .i64 (wideOf k)) (w.alloc (.map wideEs 4)) := by
  rcases kinds_split k with rfl | rfl | rfl | rfl | ⟨h1, h2, h3, h4⟩
  · exact run_lookup_lit Tryd.underlying155 Tryd.underlying3 wideEs 4 1 0 (vi 1) rfl false w
  · exact run_lookup_lit Tryd.underlying155 Tryd.underlying3 wideEs 4 2 1 (vi 2) rfl false w
  · exact run_lookup_lit Tryd.underlying155 Tryd.underlying3 wideEs 4 3 2 (vi 1) rfl false w
  · exact run_lookup_lit Tryd.underlying155 Tryd.underlying3 wideEs 4 4 3 (vi 2) rfl false w
  · rw [show wideOf k = 0 by simp [wideOf, h1, h2, h3, h4]]
    exact run_lookup_not Tryd.underlying155 Tryd.underlying3 wideEs 4 k _ zero_int (by rw [show wideEs.toList = [me 1 (vi 1) 0, me 2 (vi 2) 1, me 3 (vi 1) 2, me 4 (vi 2) 3] from rfl]; exact find_not h1 h2 h3 h4) false w

set_option maxHeartbeats 400000 in
theorem wideOf_any (k : Int) (w : World) :
    Calls Tryd.prog 76 #[.int .i64 k] w fun e w' => e = .returned (.int .i64 (wideOf k)) ∧ Below w.heap.size w w' := by
  have hmm := @run_makeMap Tryd.prog
  have i1 := wide_i1 w
  have i2 := wide_i2 w
  have i3 := wide_i3 w
  have i4 := wide_i4 w
  have i5 := wide_look k w
  go_enter Tryd.func76, Tryd.ntmps76
  go_wp2
  go_ret
  exact ⟨rfl, by (repeat' (first | exact Below.refl _ _ | assumption | refine Below.setCell ?_ (by first | omega | exact Below.size (by assumption) | (simp; done) | (simp; omega)) _ | refine Below.alloc ?_ (by first | omega | exact Below.size (by assumption) | (simp; done) | (simp; omega)) _ | refine Below.drew ?_ | refine below_drewN ?_ _))⟩

end Go.Proofs.YtmlomnhjbmocfaaDoor

/- make([]T, n) where T has one cell. No program in sight. -/
namespace Go.Proofs.YtmlomnhjbmocfaaDoor
open Go.RowKit

theorem run_make_one {P : Program} (t e : TypeId) (i : TypeInfo) (z : Value) (ht : P.underlying t = some (.slice e)) (hi : P.info? e = some i) (hz : i.zero = some z) (hs : i.size = 1) (hzc : z.cells = #[z]) (b : Nat) (hb : i.bytes = b)
    (n : Nat) (hn : n ≤ 1000000) (hbb : b ≤ 100) (w : World) :
    (Instr.makeSlice t (.int .i64 (n : Int)) (.int .i64 (n : Int))).run P w = .ok (.slice (some ⟨w.heap.size, 0, none⟩) n n) (w.alloc (.cells ((List.range n).map fun _ => z).toArray e)) := by
  have hbytes : i.bytes * n ≤ 281474976710656 := by
    rw [hb]
    have := Nat.mul_le_mul hbb hn
    omega
  have hb' : (i.bytes : Int) * (n : Int) ≤ 281474976710656 := by
    have h : ((i.bytes * n : Nat) : Int) ≤ 281474976710656 := by omega
    rwa [Int.natCast_mul] at h
  have hr := run_make (P := P) w t e i z ht hi hz .i64 .i64 n n (by omega) (Int.le_refl _) hb' (by omega)
  simp only [Int.toNat_natCast] at hr
  have hc : madeCells z.cells (n * i.size) = ((List.range n).map fun _ => z).toArray := by
    rw [hs, hzc, Nat.mul_one]
    apply Array.ext_getElem?
    intro j
    unfold madeCells
    rcases Nat.lt_or_ge j n with hj | hj
    · simp [hj, Nat.mod_one]
    · simp [hj]
  rw [hr, hc]
end Go.Proofs.YtmlomnhjbmocfaaDoor

/- A region that draws its order, a condition on the world that has to hold only until its late operations (the stores) come up. No program in sight. -/
namespace Go.Proofs.YtmlomnhjbmocfaaDoor
open Go.RowKit

section
variable {P : Program} {ops : Array Oper} {Q : Exit → Act → World → Prop} {md : Region.Mode} {S : World → Prop} {late : List Nat}

/-- Whatever order is picked from here on, and S holds behind every operation that is carried out, the late ones left out. -/
def wpAnyL (P : Program) (md : Region.Mode) (ops : Array Oper) (Q : Exit → Act → World → Prop) (S : World → Prop) (late : List Nat) : Nat → Array Bool → Act → World → Prop
  | 0, listed, a, w => Region.ready md ops listed = [] ∧ Q .normal a w
  | fuel + 1, listed, a, w =>
    (Region.ready md ops listed = [] → Q .normal a w) ∧
    ∀ i ∈ Region.ready md ops listed, wpOp P ops Q i (fun a' w' => (late.contains i = false → S w') ∧ wpAnyL P md ops Q S late fuel (listed.setIfInBounds i true) a' w') a w

theorem wpAny_of_late : ∀ (fuel : Nat) (listed : Array Bool) (a : Act) (w : World), wpAnyL P md ops Q S late fuel listed a w → wpAny P md ops Q fuel listed a w
  | 0, _, _, _, h => h
  | fuel + 1, _, _, _, h => ⟨h.1, fun i hi => wpOp_mono (fun a' w' h' => wpAny_of_late fuel _ a' w' h'.2) (h.2 i hi)⟩

/-- Each late operation waits for number i. -/
def lateOk (md : Region.Mode) (ops : Array Oper) (late : List Nat) (i : Nat) : Bool :=
  late.all fun j => match ops[j]? with
    | some o => o.after.any fun e => Region.binds md e && e.on == i
    | none => true

theorem wpAnyL_first {i : Nat} {oi : Oper} {v : Value} (hi : ops[i]? = some oi) (hsel : ∀ (j : Nat) (o : Oper) cs b, ops[j]? = some o → o.op ≠ .select cs b)
    (hQ : ∀ c a w, Q (.panic c) (a.put oi.dst v) w → Q (.panic c) a w) (hlate : lateOk md ops late i = true) (hil : late.contains i = false) :
    ∀ (fuel : Nat) (listed : Array Bool) (a : Act) (w : World),
      (∀ j oj, ops[j]? = some oj → j ≠ i → listed.getD j true = false → (∀ e ∈ oj.after, Region.binds md e = true → e.on ≠ i) → oi.apart ops oj = true) →
      i ∈ Region.ready md ops listed → YieldsIf P ops S oi v a → S w →
      wpAnyL P md ops Q S late fuel (listed.setIfInBounds i true) (a.put oi.dst v) w → wpAnyL P md ops Q S late (fuel + 1) listed a w := by
  intro fuel
  induction fuel with
  | zero =>
    intro listed a w _ hr hy hS H
    refine ⟨fun h => (by rw [h] at hr; cases hr), fun j hj => ?_⟩
    by_cases hji : j = i
    · subst hji; exact hy.wpOp hi hS ⟨fun _ => hS, H⟩
    · have := ready_mono hj hji
      rw [H.1] at this
      cases this
  | succ fuel ih =>
    intro listed a w hfree hr hy hS H
    refine ⟨fun h => (by rw [h] at hr; cases hr), fun j hj => ?_⟩
    by_cases hji : j = i
    · subst hji; exact hy.wpOp hi hS ⟨fun _ => hS, H⟩
    · have h1 := H.2 j (ready_mono hj hji)
      obtain ⟨hjun, oj, hoj, hall⟩ := mem_ready.1 hj
      have hnot : ∀ e ∈ oj.after, Region.binds md e = true → e.on ≠ i := fun e he hb heq => by
        have h1 := hall e he hb
        have h0 := (mem_ready.1 hr).1
        rw [heq] at h1
        rcases Nat.lt_or_ge i listed.size with h' | h'
        · simp [h'] at h0 h1; rw [h0] at h1; cases h1
        · simp [Array.getElem?_eq_none h'] at h1
      have hjl : late.contains j = false := by
        cases hc : late.contains j with
        | false => rfl
        | true =>
          have h2 := List.all_eq_true.1 hlate j (by simpa using hc)
          rw [hoj] at h2
          simp only [Array.any_eq_true'] at h2
          obtain ⟨e, he, h3⟩ := h2
          simp only [Bool.and_eq_true, beq_iff_eq] at h3
          exact absurd h3.2 (hnot e he h3.1)
      have h2 := wpOp_putIf hoj (hfree j oj hoj hji hjun hnot) (fun cs b => hsel i oi cs b hi) (fun cs b => hsel j oj cs b hoj) hQ hy h1
      have hfree' : ∀ k ok, ops[k]? = some ok → k ≠ i → (listed.setIfInBounds j true).getD k true = false →
          (∀ e ∈ ok.after, Region.binds md e = true → e.on ≠ i) → oi.apart ops ok = true := fun k ok hk hki hun hno => by
        refine hfree k ok hk hki ?_ hno
        by_cases hjk : j = k
        · subst hjk; exact hjun
        · rw [getD_set_ne true hjk] at hun; exact hun
      refine wpOp_mono (fun a' w' h3 => ⟨h3.2.1, ih (listed.setIfInBounds j true) a' w' hfree' (ready_mono hr (Ne.symm hji)) h3.1 (h3.2.1 hjl) ?_⟩) h2
      rw [Array.setIfInBounds_comm _ _ hji]
      exact h3.2.2

theorem wpAnyL_take {i : Nat} {oi : Oper} {v : Value} {fuel : Nat} {listed : Array Bool} {a : Act} {w : World} (hi : ops[i]? = some oi)
    (hs : Region.noSelect ops = true) (hf : Region.free md ops listed i = true) (hr : (Region.ready md ops listed).contains i = true)
    (hQ : ∀ c a w, Q (.panic c) (a.put oi.dst v) w → Q (.panic c) a w) (hy : YieldsIf P ops S oi v a) (hS : S w) (hl : lateOk md ops late i = true) (hil : late.contains i = false)
    (h : wpAnyL P md ops Q S late fuel (listed.setIfInBounds i true) (a.put oi.dst v) w) : wpAnyL P md ops Q S late (fuel + 1) listed a w :=
  wpAnyL_first hi (Region.noSelect_spec hs) hQ hl hil fuel listed a w (Region.free_spec hi hf) (by simpa using hr) hy hS h

theorem wpAnyL_ready {rs : List Nat} {fuel : Nat} {listed : Array Bool} {a : Act} {w : World} (hr : Region.ready md ops listed = rs) (hne : rs ≠ [])
    (h : ∀ i ∈ rs, wpOp P ops Q i (fun a' w' => (late.contains i = false → S w') ∧ wpAnyL P md ops Q S late fuel (listed.setIfInBounds i true) a' w') a w) : wpAnyL P md ops Q S late (fuel + 1) listed a w :=
  ⟨fun h0 => absurd (hr ▸ h0) hne, hr ▸ h⟩

/-- One that is not late: S is shown behind it. -/
theorem stepL {fuel : Nat} {listed : Array Bool} {a : Act} {w : World} {i : Nat} {o : Oper} (ho : ops[i]? = some o)
    (h : ∀ K' : Act → World → Prop, Shut (∀ a w, S w → (S w → wpAnyL P md ops Q S late fuel (listed.setIfInBounds i true) a w) → K' a w) → if Region.wanted o (yielded ops a.tmps) = true then Oper.wp P o a w K' Q else K' (a.put o.dst undef) w) :
    wpOp P ops Q i (fun a' w' => (late.contains i = false → S w') ∧ wpAnyL P md ops Q S late fuel (listed.setIfInBounds i true) a' w') a w :=
  wpOp_step ho (fun K' hK => h K' (fun a w hS hW => hK a w ⟨fun _ => hS, hW hS⟩))
/-- One that is late: nothing is shown. -/
theorem stepLate {fuel : Nat} {listed : Array Bool} {a : Act} {w : World} {i : Nat} {o : Oper} (ho : ops[i]? = some o) (hl : late.contains i = true)
    (h : ∀ K' : Act → World → Prop, Shut (∀ a w, wpAnyL P md ops Q S late fuel (listed.setIfInBounds i true) a w → K' a w) → if Region.wanted o (yielded ops a.tmps) = true then Oper.wp P o a w K' Q else K' (a.put o.dst undef) w) :
    wpOp P ops Q i (fun a' w' => (late.contains i = false → S w') ∧ wpAnyL P md ops Q S late fuel (listed.setIfInBounds i true) a' w') a w :=
  wpOp_step ho (fun K' hK => h K' (fun a w hW => hK a w ⟨fun hn => (by rw [hl] at hn; cases hn), hW⟩))
theorem wpAnyL_done {listed : Array Bool} {a : Act} {w : World} (hr : Region.ready md ops listed = []) (h : Q .normal a w) : ∀ fuel, wpAnyL P md ops Q S late fuel listed a w
  | 0 => ⟨hr, h⟩
  | _ + 1 => ⟨fun _ => h, by rw [hr]; simp⟩
theorem wp_region_late {id : Nat} {a : Act} {w : World} (late : List Nat) (hm : P.follows .mixedOrders = true) (hS : S w.drew)
    (h : S w.drew → wpAnyL P .any ops Q S late ops.size (Array.replicate ops.size false) a w.drew) : (Code.region id ops true).wp P Q a w :=
  wp_region_any hm (wpAny_of_late _ _ _ _ (h hS))
end
end Go.Proofs.YtmlomnhjbmocfaaDoor

/- As XHeld: a late operation may wait for another one through others. No program in sight. -/
namespace Go.Proofs.YtmlomnhjbmocfaaDoor
open Go.RowKit

section
variable {P : Program} {ops : Array Oper} {Q : Exit → Act → World → Prop} {md : Region.Mode} {S : World → Prop} {late : List Nat}

/-- Number j waits for number i, through others. -/
def waitsFor (md : Region.Mode) (ops : Array Oper) (i : Nat) : Nat → Nat → Bool
  | 0, _ => false
  | d + 1, j => match ops[j]? with
    | some o => o.after.any fun e => Region.binds md e && (e.on == i || waitsFor md ops i d e.on)
    | none => false
def lateOkT (md : Region.Mode) (ops : Array Oper) (late : List Nat) (i : Nat) : Bool := late.all fun j => waitsFor md ops i 12 j
def Closed (md : Region.Mode) (ops : Array Oper) (listed : Array Bool) : Prop := ∀ k o, ops[k]? = some o → listed.getD k false = true → ∀ e ∈ o.after, Region.binds md e = true → listed.getD e.on false = true
def closedB (md : Region.Mode) (ops : Array Oper) (listed : Array Bool) : Bool :=
  (List.range ops.size).all fun k => !listed.getD k false || ((ops[k]?).map fun o => o.after.all fun e => !Region.binds md e || listed.getD e.on false).getD true
theorem closedB_spec {listed : Array Bool} (h : closedB md ops listed = true) : Closed md ops listed := by
  intro k o hk hl e he hb
  have hlt : k < ops.size := (Array.getElem?_eq_some_iff.1 hk).1
  have h1 := List.all_eq_true.1 h k (List.mem_range.2 hlt)
  rw [hl, hk] at h1
  simp only [Bool.not_true, Bool.false_or, Option.map_some, Option.getD_some] at h1
  have h2 := Array.all_eq_true'.1 h1 e he
  rw [hb] at h2
  simpa using h2
theorem getD_true_set {l : Array Bool} {j k : Nat} (h : l.getD k false = true) : (l.setIfInBounds j true).getD k false = true := by
  by_cases hjk : j = k
  · subst hjk
    have hlt : j < l.size := by
      rcases Nat.lt_or_ge j l.size with h' | h'
      · exact h'
      · simp [Array.getElem?_eq_none h'] at h
    simp [hlt]
  · rw [show (l.setIfInBounds j true).getD k false = l.getD k false from by simp [Array.getElem?_setIfInBounds, hjk]]
    exact h
theorem Closed.step {listed : Array Bool} {j : Nat} (h : Closed md ops listed) (hj : j ∈ Region.ready md ops listed) : Closed md ops (listed.setIfInBounds j true) := by
  intro k o hk hl e he hb
  refine getD_true_set ?_
  by_cases hjk : j = k
  · subst hjk
    obtain ⟨_, o', ho', hall⟩ := mem_ready.1 hj
    rw [hk] at ho'
    cases ho'
    exact hall e he hb
  · have : listed.getD k false = true := by
      rw [show (listed.setIfInBounds j true).getD k false = listed.getD k false from by simp [Array.getElem?_setIfInBounds, hjk]] at hl
      exact hl
    exact h k o hk this e he hb
theorem waits_listed {listed : Array Bool} (hc : Closed md ops listed) {i : Nat} : ∀ (d k : Nat), listed.getD k false = true → waitsFor md ops i d k = true → listed.getD i false = true
  | 0, _, _, h => by cases h
  | d + 1, k, hk, h => by
    rw [waitsFor] at h
    split at h
    · rename_i o ho
      obtain ⟨e, he, h3⟩ := (by simpa only [Array.any_eq_true'] using h)
      simp only [Bool.and_eq_true, Bool.or_eq_true, beq_iff_eq] at h3
      have h4 := hc k o ho hk e he h3.1
      rcases h3.2 with h5 | h5
      · rw [← h5]; exact h4
      · exact waits_listed hc d e.on h4 h5
    · cases h
theorem not_late {listed : Array Bool} (hc : Closed md ops listed) {i j : Nat} (hl : lateOkT md ops late i = true) (hr : i ∈ Region.ready md ops listed) (hj : j ∈ Region.ready md ops listed) (hji : j ≠ i) : late.contains j = false := by
  cases hcj : late.contains j with
  | false => rfl
  | true =>
    have h2 := List.all_eq_true.1 hl j (by simpa using hcj)
    obtain ⟨_, o, ho, hall⟩ := mem_ready.1 hj
    have hi0 := (mem_ready.1 hr).1
    have hno : ¬ listed.getD i false = true := fun h => by
      rcases Nat.lt_or_ge i listed.size with h' | h'
      · simp [h'] at h hi0; rw [hi0] at h; cases h
      · simp [Array.getElem?_eq_none h'] at h
    rw [waitsFor, ho] at h2
    obtain ⟨e, he, h3⟩ := (by simpa only [Array.any_eq_true'] using h2)
    simp only [Bool.and_eq_true, Bool.or_eq_true, beq_iff_eq] at h3
    have h4 := hall e he h3.1
    rcases h3.2 with h5 | h5
    · rw [h5] at h4; exact absurd h4 hno
    · exact absurd (waits_listed hc 11 e.on h4 h5) hno

theorem wpAnyLT_first {i : Nat} {oi : Oper} {v : Value} (hi : ops[i]? = some oi) (hsel : ∀ (j : Nat) (o : Oper) cs b, ops[j]? = some o → o.op ≠ .select cs b)
    (hQ : ∀ c a w, Q (.panic c) (a.put oi.dst v) w → Q (.panic c) a w) (hlate : lateOkT md ops late i = true) (hil : late.contains i = false) :
    ∀ (fuel : Nat) (listed : Array Bool) (a : Act) (w : World), Closed md ops listed →
      (∀ j oj, ops[j]? = some oj → j ≠ i → listed.getD j true = false → (∀ e ∈ oj.after, Region.binds md e = true → e.on ≠ i) → oi.apart ops oj = true) →
      i ∈ Region.ready md ops listed → YieldsIf P ops S oi v a → S w →
      wpAnyL P md ops Q S late fuel (listed.setIfInBounds i true) (a.put oi.dst v) w → wpAnyL P md ops Q S late (fuel + 1) listed a w := by
  intro fuel
  induction fuel with
  | zero =>
    intro listed a w _ _ hr hy hS H
    refine ⟨fun h => (by rw [h] at hr; cases hr), fun j hj => ?_⟩
    by_cases hji : j = i
    · subst hji; exact hy.wpOp hi hS ⟨fun _ => hS, H⟩
    · have := ready_mono hj hji
      rw [H.1] at this
      cases this
  | succ fuel ih =>
    intro listed a w hcl hfree hr hy hS H
    refine ⟨fun h => (by rw [h] at hr; cases hr), fun j hj => ?_⟩
    by_cases hji : j = i
    · subst hji; exact hy.wpOp hi hS ⟨fun _ => hS, H⟩
    · have h1 := H.2 j (ready_mono hj hji)
      obtain ⟨hjun, oj, hoj, hall⟩ := mem_ready.1 hj
      have hnot : ∀ e ∈ oj.after, Region.binds md e = true → e.on ≠ i := fun e he hb heq => by
        have h1 := hall e he hb
        have h0 := (mem_ready.1 hr).1
        rw [heq] at h1
        rcases Nat.lt_or_ge i listed.size with h' | h'
        · simp [h'] at h0 h1; rw [h0] at h1; cases h1
        · simp [Array.getElem?_eq_none h'] at h1
      have hjl : late.contains j = false := not_late hcl hlate hr hj hji
      have h2 := wpOp_putIf hoj (hfree j oj hoj hji hjun hnot) (fun cs b => hsel i oi cs b hi) (fun cs b => hsel j oj cs b hoj) hQ hy h1
      have hfree' : ∀ k ok, ops[k]? = some ok → k ≠ i → (listed.setIfInBounds j true).getD k true = false →
          (∀ e ∈ ok.after, Region.binds md e = true → e.on ≠ i) → oi.apart ops ok = true := fun k ok hk hki hun hno => by
        refine hfree k ok hk hki ?_ hno
        by_cases hjk : j = k
        · subst hjk; exact hjun
        · rw [getD_set_ne true hjk] at hun; exact hun
      refine wpOp_mono (fun a' w' h3 => ⟨h3.2.1, ih (listed.setIfInBounds j true) a' w' (hcl.step hj) hfree' (ready_mono hr (Ne.symm hji)) h3.1 (h3.2.1 hjl) ?_⟩) h2
      rw [Array.setIfInBounds_comm _ _ hji]
      exact h3.2.2
theorem wpAnyLT_take {i : Nat} {oi : Oper} {v : Value} {fuel : Nat} {listed : Array Bool} {a : Act} {w : World} (hi : ops[i]? = some oi)
    (hs : Region.noSelect ops = true) (hf : Region.free md ops listed i = true) (hr : (Region.ready md ops listed).contains i = true)
    (hQ : ∀ c a w, Q (.panic c) (a.put oi.dst v) w → Q (.panic c) a w) (hy : YieldsIf P ops S oi v a) (hS : S w) (hl : lateOkT md ops late i = true) (hil : late.contains i = false) (hcl : closedB md ops listed = true)
    (h : wpAnyL P md ops Q S late fuel (listed.setIfInBounds i true) (a.put oi.dst v) w) : wpAnyL P md ops Q S late (fuel + 1) listed a w :=
  wpAnyLT_first hi (Region.noSelect_spec hs) hQ hl hil fuel listed a w (closedB_spec hcl) (Region.free_spec hi hf) (by simpa using hr) hy hS h
end
end Go.Proofs.YtmlomnhjbmocfaaDoor

/- The document's Find comes to names.Find. No program in sight. -/
namespace Go.Proofs.YtmlomnhjbmocfaaDoor

def ofKind (s : ByteArray) (k : Int) (l : List Df) : List Df := l.filter fun d => decide (d.name = s ∧ d.kind = k)
def sizeM (l : List Df) : Int := l.foldl (fun n d => max n d.size) 0
def alignM (l : List Df) : Int := l.foldl (fun n d => max n d.align) 0
/-- chapter 4's Find, by the lists of each kind. -/
def foundL (l : List Df) (s : ByteArray) : Df × Int :=
  if 1 < (ofKind s 1 l).length then (.zero, 6)
  else match ofKind s 1 l with
    | d :: _ => (d, 0)
    | [] => if 0 < (ofKind s 3 l).length then (⟨s, 3, 0, 0, sizeM (ofKind s 3 l), alignM (ofKind s 3 l)⟩, 0)
      else match ofKind s 2 l with
        | d :: _ => (d, 0)
        | [] => (.zero, 7)
theorem ofKind_snoc (s : ByteArray) (k : Int) (l : List Df) (d : Df) : ofKind s k (l ++ [d]) = if d.name = s ∧ d.kind = k then ofKind s k l ++ [d] else ofKind s k l := by
  unfold ofKind
  rw [List.filter_append]
  split
  · rename_i h; simp [h]
  · rename_i h; simp [h]
theorem sizeM_snoc (l : List Df) (d : Df) : sizeM (l ++ [d]) = max (sizeM l) d.size := by unfold sizeM; rw [List.foldl_append]; rfl
theorem alignM_snoc (l : List Df) (d : Df) : alignM (l ++ [d]) = max (alignM l) d.align := by unfold alignM; rw [List.foldl_append]; rfl
/-- What the state is, by the lists of each kind. -/
structure FoundSt (s : ByteArray) (l : List Df) (st : Df × Bool) : Prop where
  two : 1 < (ofKind s 1 l).length → st = (.zero, true)
  one : ∀ d, ofKind s 1 l = [d] → st = (d, false)
  com : ofKind s 1 l = [] → 0 < (ofKind s 3 l).length → st = (⟨s, 3, 0, 0, sizeM (ofKind s 3 l), alignM (ofKind s 3 l)⟩, false)
  weak : ∀ d r, ofKind s 1 l = [] → ofKind s 3 l = [] → ofKind s 2 l = d :: r → st = (d, false)
  none_ : ofKind s 1 l = [] → ofKind s 3 l = [] → ofKind s 2 l = [] → st = (.zero, false)
/-- What holds of a right part's definitions. -/
def DfOk (d : Df) : Prop := (d.kind = 1 ∨ d.kind = 2 ∨ d.kind = 3) ∧ (d.kind = 3 → d.frag = 0 ∧ d.at_ = 0 ∧ 1 ≤ d.size ∧ 1 ≤ d.align)
theorem mem_kind {s : ByteArray} {k : Int} {l : List Df} {d : Df} (h : d ∈ ofKind s k l) : d.name = s ∧ d.kind = k := by
  unfold ofKind at h
  have := (List.mem_filter.1 h).2
  simpa using this
theorem found_step {s : ByteArray} {l : List Df} {st : Df × Bool} {d : Df} (hd : DfOk d) (h : FoundSt s l st) : FoundSt s (l ++ [d]) (findStep s st d) := by
  have e1 := ofKind_snoc s 1 l d
  have e2 := ofKind_snoc s 2 l d
  have e3 := ofKind_snoc s 3 l d
  by_cases hn : d.name = s
  rotate_left
  · have hs : findStep s st d = st := by unfold findStep; simp [hn]
    rw [if_neg (by simp [hn])] at e1 e2 e3
    rw [hs]
    exact ⟨by rw [e1]; exact h.two, by rw [e1]; exact h.one, by rw [e1, e3]; exact h.com, by rw [e1, e2, e3]; exact h.weak, by rw [e1, e2, e3]; exact h.none_⟩
  -- what the state is
  rcases hA : ofKind s 1 l with _ | ⟨a, _ | ⟨a2, r⟩⟩
  · rcases hC : ofKind s 3 l with _ | ⟨c, rc⟩
    · rcases hW : ofKind s 2 l with _ | ⟨b, rb⟩
      · have hst := h.none_ hA hC hW
        rcases hd.1 with hk | hk | hk <;> simp only [hn, hk, hA, hC, hW, true_and, and_true, and_false, if_true, if_false, List.nil_append, Int.reduceEq] at e1 e2 e3
        · have hs : findStep s st d = (d, false) := by rw [hst]; simp [findStep, hn, hk, Df.zero]
          rw [hs]
          exact ⟨fun h => (by rw [e1] at h; simp at h), fun x hx => (by rw [e1] at hx; cases hx; rfl), fun hx => (by rw [e1] at hx; cases hx), fun _ _ hx => (by rw [e1] at hx; cases hx), fun hx => (by rw [e1] at hx; cases hx)⟩
        · have hs : findStep s st d = (d, false) := by rw [hst]; simp [findStep, hn, hk, Df.zero]
          rw [hs]
          exact ⟨fun h => (by rw [e1] at h; simp at h), fun x hx => (by rw [e1] at hx; cases hx), fun _ hx => (by rw [e3] at hx; simp at hx), fun x r _ _ hx => (by rw [e2] at hx; cases hx; rfl), fun _ _ hx => (by rw [e2] at hx; cases hx)⟩
        · obtain ⟨q1, q2, q3, q4⟩ := hd.2 hk
          have hs : findStep s st d = (d, false) := by rw [hst]; simp [findStep, hn, hk, Df.zero]
          rw [hs]
          refine ⟨fun h => (by rw [e1] at h; simp at h), fun x hx => (by rw [e1] at hx; cases hx), fun _ _ => ?_, fun x r _ hx => (by rw [e3] at hx; cases hx), fun _ hx => (by rw [e3] at hx; cases hx)⟩
          rw [e3]
          obtain ⟨dn, dk, df, da, ds, dl⟩ := d
          simp only at *
          subst hn hk q1 q2
          simp only [sizeM, alignM, List.foldl_cons, List.foldl_nil, Prod.mk.injEq, Df.mk.injEq, true_and, and_true]
          omega
      · have hst := h.weak b rb hA hC hW
        have hb := mem_kind (show b ∈ ofKind s 2 l by rw [hW]; simp)
        rcases hd.1 with hk | hk | hk <;> simp only [hn, hk, hA, hC, hW, true_and, and_true, and_false, if_true, if_false, List.nil_append, Int.reduceEq] at e1 e2 e3
        · have hs : findStep s st d = (d, false) := by rw [hst]; simp [findStep, hn, hk, hb]
          rw [hs]
          exact ⟨fun h => (by rw [e1] at h; simp at h), fun x hx => (by rw [e1] at hx; cases hx; rfl), fun hx => (by rw [e1] at hx; cases hx), fun _ _ hx => (by rw [e1] at hx; cases hx), fun hx => (by rw [e1] at hx; cases hx)⟩
        · have hs : findStep s st d = (b, false) := by rw [hst]; simp [findStep, hn, hk, hb]
          rw [hs]
          exact ⟨fun h => (by rw [e1] at h; simp at h), fun x hx => (by rw [e1] at hx; cases hx), fun _ hx => (by rw [e3] at hx; simp at hx), fun x r _ _ hx => (by rw [e2] at hx; cases hx; rfl), fun _ _ hx => (by rw [e2] at hx; cases hx)⟩
        · obtain ⟨q1, q2, q3, q4⟩ := hd.2 hk
          have hs : findStep s st d = (d, false) := by rw [hst]; simp [findStep, hn, hk, hb]
          rw [hs]
          refine ⟨fun h => (by rw [e1] at h; simp at h), fun x hx => (by rw [e1] at hx; cases hx), fun _ _ => ?_, fun x r _ hx => (by rw [e3] at hx; cases hx), fun _ hx => (by rw [e3] at hx; cases hx)⟩
          rw [e3]
          obtain ⟨dn, dk, df, da, ds, dl⟩ := d
          simp only at *
          subst hn hk q1 q2
          simp only [sizeM, alignM, List.foldl_cons, List.foldl_nil, Prod.mk.injEq, Df.mk.injEq, true_and, and_true]
          omega
    · have hst := h.com hA (by rw [hC]; simp)
      rw [hC] at hst
      rcases hd.1 with hk | hk | hk <;> simp only [hn, hk, hA, hC, true_and, and_true, and_false, if_true, if_false, List.nil_append, Int.reduceEq] at e1 e2 e3
      · have hs : findStep s st d = (d, false) := by rw [hst]; simp [findStep, hn, hk]
        rw [hs]
        exact ⟨fun h => (by rw [e1] at h; simp at h), fun x hx => (by rw [e1] at hx; cases hx; rfl), fun hx => (by rw [e1] at hx; cases hx), fun _ _ hx => (by rw [e1] at hx; cases hx), fun hx => (by rw [e1] at hx; cases hx)⟩
      · have hs : findStep s st d = st := by rw [hst]; simp [findStep, hn, hk]
        rw [hs, hst]
        exact ⟨fun h => (by rw [e1] at h; simp at h), fun x hx => (by rw [e1] at hx; cases hx), fun _ _ => by rw [e3], fun x r _ hx => (by rw [e3] at hx; cases hx), fun _ hx => (by rw [e3] at hx; cases hx)⟩
      · have hs : findStep s st d = (⟨s, 3, 0, 0, max (sizeM (c :: rc)) d.size, max (alignM (c :: rc)) d.align⟩, false) := by rw [hst]; simp [findStep, hn, hk]
        rw [hs]
        refine ⟨fun h => (by rw [e1] at h; simp at h), fun x hx => (by rw [e1] at hx; cases hx), fun _ _ => ?_, fun x r _ hx => (by rw [e3] at hx; cases hx), fun _ hx => (by rw [e3] at hx; cases hx)⟩
        rw [e3, sizeM_snoc, alignM_snoc]
  · have hst := h.one a hA
    have ha := mem_kind (show a ∈ ofKind s 1 l by rw [hA]; simp)
    rcases hd.1 with hk | hk | hk <;> simp only [hn, hk, hA, true_and, and_true, and_false, if_true, if_false, List.nil_append, Int.reduceEq] at e1
    · have hs : findStep s st d = (.zero, true) := by rw [hst]; simp [findStep, hn, hk, ha]
      rw [hs]
      exact ⟨fun _ => rfl, fun x hx => (by rw [e1] at hx; simp at hx), fun hx => (by rw [e1] at hx; simp at hx), fun _ _ hx => (by rw [e1] at hx; simp at hx), fun hx => (by rw [e1] at hx; simp at hx)⟩
    · have hs : findStep s st d = (a, false) := by rw [hst]; simp [findStep, hn, hk, ha]
      rw [hs]
      exact ⟨fun h => (by rw [e1] at h; simp at h), fun x hx => (by rw [e1] at hx; cases hx; rfl), fun hx => (by rw [e1] at hx; cases hx), fun _ _ hx => (by rw [e1] at hx; cases hx), fun hx => (by rw [e1] at hx; cases hx)⟩
    · have hs : findStep s st d = (a, false) := by rw [hst]; simp [findStep, hn, hk, ha]
      rw [hs]
      exact ⟨fun h => (by rw [e1] at h; simp at h), fun x hx => (by rw [e1] at hx; cases hx; rfl), fun hx => (by rw [e1] at hx; cases hx), fun _ _ hx => (by rw [e1] at hx; cases hx), fun hx => (by rw [e1] at hx; cases hx)⟩
  · have hst := h.two (by rw [hA]; simp)
    have hs : findStep s st d = (.zero, true) := by rw [hst]; simp [findStep]
    rw [hs]
    have hl : 1 < (ofKind s 1 (l ++ [d])).length := by
      rw [e1]
      split
      · rw [hA]; simp
      · rw [hA]; simp
    exact ⟨fun _ => rfl, fun x hx => (by rw [hx] at hl; simp at hl), fun hx => (by rw [hx] at hl; simp at hl), fun _ _ hx => (by rw [hx] at hl; simp at hl), fun hx => (by rw [hx] at hl; simp at hl)⟩
theorem found_fold {s : ByteArray} : ∀ (m l : List Df) (st : Df × Bool), (∀ d ∈ m, DfOk d) → FoundSt s l st → FoundSt s (l ++ m) (m.foldl (findStep s) st)
  | [], l, st, _, h => by simpa using h
  | d :: r, l, st, hm, h => by
    have := found_fold r (l ++ [d]) (findStep s st d) (fun x hx => hm x (by simp [hx])) (found_step (hm d (by simp)) h)
    simpa using this
theorem found_eq {l : List Df} (hl : ∀ d ∈ l, DfOk d) (s : ByteArray) : foundL l s = findL l s := by
  have h : FoundSt s l (findSt s l) := by
    have := found_fold (s := s) l [] (.zero, false) hl ⟨fun h => by simp [ofKind] at h, fun d h => by simp [ofKind] at h, fun _ h => by simp [ofKind] at h, fun d r _ _ h => by simp [ofKind] at h, fun _ _ _ => rfl⟩
    simpa [findSt] using this
  unfold foundL findL
  rcases hA : ofKind s 1 l with _ | ⟨a, _ | ⟨a2, r⟩⟩
  · rcases hC : ofKind s 3 l with _ | ⟨c, rc⟩
    · rcases hW : ofKind s 2 l with _ | ⟨b, rb⟩
      · rw [h.none_ hA hC hW]; simp [findEnd, Df.zero]
      · have hb := mem_kind (show b ∈ ofKind s 2 l by rw [hW]; simp)
        rw [h.weak b rb hA hC hW]; simp [findEnd, hb]
    · rw [h.com hA (by rw [hC]; simp), hC]; simp [findEnd]
  · have ha := mem_kind (show a ∈ ofKind s 1 l by rw [hA]; simp)
    rw [h.one a hA]; simp [findEnd, ha]
  · rw [h.two (by rw [hA]; simp)]; simp [findEnd]
end Go.Proofs.YtmlomnhjbmocfaaDoor

/- layout.up: what it computes. -/
namespace Go.Proofs.YtmlomnhjbmocfaaDoor
open Go.RowKit

/-- Up to the next address that is aligned. -/
def upN (a n : Nat) : Nat := (a + n - 1) / n * n
set_option maxHeartbeats 1000000 in
theorem up_any (a n : Nat) (w : World) (ha : a ≤ 1000000) (hn : 0 < n) (hn2 : n ≤ 1000) : Calls Tryd.prog 29 #[.int .i64 a, .int .i64 n] w fun e w' => e = .returned (.int .i64 (upN a n)) ∧ w' = w := by
  have h1 : (a + n - 1) / n * n ≤ a + n := Nat.le_trans (Nat.div_mul_le_self _ _) (by omega)
  go_enter Tryd.func29, Tryd.ntmps29
  go_wp2
  go_ret
  have e : (((a : Int) + (n : Int) - 1) / (n : Int) * (n : Int)) = ((upN a n : Nat) : Int) := by
    unfold upN
    rw [show ((a : Int) + (n : Int) - 1) = ((a + n - 1 : Nat) : Int) by omega]
    simp only [Int.natCast_mul, Int.natCast_ediv]
  have e2 : upN a n ≤ a + n := h1
  refine ⟨?_, rfl⟩
  show Ending.returned (Value.int .i64 (wrap64 _)) = _
  have e3 : wrap64 ((upN a n : Nat) : Int) = ((upN a n : Nat) : Int) := by unfold wrap64; omega
  rw [e, e3]
end Go.Proofs.YtmlomnhjbmocfaaDoor

/- layout.Lay: where all stands; what holds of it. No program in sight. -/
namespace Go.Proofs.YtmlomnhjbmocfaaDoor

theorem upN_le (a n : Nat) (hn : 0 < n) : a ≤ upN a n := by
  unfold upN
  have h1 := Nat.div_add_mod (a + n - 1) n
  have h2 := Nat.mod_lt (a + n - 1) hn
  rw [Nat.mul_comm] at h1
  omega
theorem upN_lt (a n : Nat) (hn : 0 < n) : upN a n < a + n := by
  unfold upN
  have := Nat.div_mul_le_self (a + n - 1) n
  omega
theorem upN_mod (a n : Nat) : upN a n % n = 0 := by unfold upN; exact Nat.mul_mod_left _ _
theorem upN_add (a n m : Nat) (hn : 0 < n) (h : n ∣ m) : upN (a + m) n = upN a n + m := by
  obtain ⟨k, rfl⟩ := h
  unfold upN
  rw [show a + n * k + n - 1 = a + n - 1 + k * n by rw [Nat.mul_comm n k]; omega, Nat.add_mul_div_right _ _ hn, Nat.add_mul, Nat.mul_comm n k]
theorem upN_mono {a b : Nat} (n : Nat) (h : a ≤ b) : upN a n ≤ upN b n := by
  unfold upN
  exact Nat.mul_le_mul_right _ (Nat.div_le_div_right (by omega))

def Frg.al (f : Frg) : Nat := f.align.toNat
def Frg.ln (f : Frg) : Nat := f.long.toNat
/-- Two texts that are alike. -/
def Frg.alike (f g : Frg) : Bool := decide (g.sect = f.sect) && decide (g.align = f.align) && decide (g.bs = f.bs)
theorem alike_iff (f g : Frg) : f.alike g = true ↔ g.sect = f.sect ∧ g.align = f.align ∧ g.bs = f.bs := by unfold Frg.alike; simp [and_assoc]
/-- The fragment whose place it has: its own, or that of the first text that is alike. -/
def firstAt (fs : List Frg) (k : Nat) : Nat :=
  match fs[k]? with
  | some f => if f.sect = 3 then fs.findIdx f.alike else k
  | none => k
/-- Where a section's fragments have come to, from a on, after k. -/
def posAt (fs : List Frg) (s : Int) (a : Nat) : Nat → Nat
  | 0 => a
  | k + 1 => match fs[k]? with
    | some f => if f.sect = s ∧ firstAt fs k = k then upN (posAt fs s a k) f.al + f.ln else posAt fs s a k
    | none => posAt fs s a k
def secEnd (fs : List Frg) (base : Nat) : Nat → Nat
  | 0 => base
  | s + 1 => posAt fs ((s : Int) + 1) (upN (secEnd fs base s) 16) fs.length
def secFrom (fs : List Frg) (base s : Nat) : Nat := upN (secEnd fs base (s - 1)) 16
def plcAt (fs : List Frg) (a : Nat) (k : Nat) : Nat :=
  match fs[firstAt fs k]? with
  | some g => upN (posAt fs g.sect a (firstAt fs k)) g.al
  | none => 0
/-- Where a fragment stands. -/
def adrOf (fs : List Frg) (base k : Nat) : Nat :=
  match fs[k]? with
  | some f => plcAt fs (secFrom fs base f.sect.toNat) k
  | none => 0

structure Lays (fs : List Frg) : Prop where
  n : fs.length ≤ 60
  sect : ∀ f ∈ fs, 1 ≤ f.sect ∧ f.sect ≤ 5
  al : ∀ f ∈ fs, f.align = 1 ∨ f.align = 2 ∨ f.align = 4 ∨ f.align = 8
  ln : ∀ f ∈ fs, 0 ≤ f.long ∧ f.long ≤ 64
theorem alignB_iff {n : Int} : alignB n = true ↔ n = 1 ∨ n = 2 ∨ n = 4 ∨ n = 8 := by unfold alignB; simp [or_assoc]
theorem lays_of {p : Prt} (h : ckPart p = 0) : Lays p.frs := by
  have ho := (ok_iff p).1 h
  have hf : ∀ f ∈ p.frs, (1 ≤ f.sect ∧ f.sect ≤ 5) ∧ (f.align = 1 ∨ f.align = 2 ∨ f.align = 4 ∨ f.align = 8) ∧ 0 ≤ f.long ∧ f.long ≤ 64 := by
    intro f hf
    have h1 := ho.fr f hf
    unfold ckFrag at h1
    split at h1
    · cases h1
    · rename_i g1
      split at h1
      · cases h1
      · split at h1
        · cases h1
        · rename_i g3
          split at h1
          · cases h1
          · rename_i g4
            refine ⟨by omega, alignB_iff.1 ?_, ?_⟩
            · rcases hb : alignB f.align with _ | _
              · exact absurd (.inr (.inr hb)) g1
              · rfl
            · unfold Frg.formed at g4
              unfold Frg.long
              split
              · rename_i h5
                have : ¬ (0 < f.bs.length ∨ 0 < f.rs.length ∨ f.size < 0 ∨ 64 < f.size) := fun h6 => g4 (fun h7 => h7 (.inl ⟨h5, h6⟩))
                omega
              · omega
  exact ⟨ho.n1, fun f h => (hf f h).1, fun f h => (hf f h).2.1, fun f h => (hf f h).2.2⟩
section
variable {fs : List Frg}
theorem Lays.al0 (h : Lays fs) {f : Frg} (hf : f ∈ fs) : 0 < f.al ∧ f.al ≤ 8 ∧ (f.al : Int) = f.align ∧ f.al ∣ 16 := by
  have := h.al f hf
  unfold Frg.al
  refine ⟨by omega, by omega, by omega, ?_⟩
  rcases this with e | e | e | e <;> rw [e] <;> decide
theorem Lays.ln0 (h : Lays fs) {f : Frg} (hf : f ∈ fs) : f.ln ≤ 64 ∧ (f.ln : Int) = f.long := by
  have := h.ln f hf
  unfold Frg.ln
  omega
theorem firstAt_le (k : Nat) : firstAt fs k ≤ k := by
  unfold firstAt
  split
  · rename_i f hf
    split
    · obtain ⟨hk, hv⟩ := List.getElem?_eq_some_iff.1 hf
      rcases Nat.lt_or_ge k (fs.findIdx f.alike) with h | h
      · have := List.not_of_lt_findIdx h
        rw [hv] at this
        exact absurd ((alike_iff f f).2 ⟨rfl, rfl, rfl⟩) (by simpa using this)
      · exact h
    · exact Nat.le_refl _
  · exact Nat.le_refl _
theorem firstAt_text {k : Nat} {f : Frg} (hf : fs[k]? = some f) (h3 : f.sect = 3) : ∃ g, fs[firstAt fs k]? = some g ∧ g.sect = 3 ∧ g.align = f.align ∧ g.bs = f.bs := by
  have hle : firstAt fs k ≤ k := firstAt_le k
  have e : firstAt fs k = fs.findIdx f.alike := by unfold firstAt; rw [hf]; exact if_pos h3
  rw [e] at hle ⊢
  obtain ⟨hk, hv⟩ := List.getElem?_eq_some_iff.1 hf
  have hl : fs.findIdx f.alike < fs.length := by omega
  refine ⟨fs[fs.findIdx f.alike], List.getElem?_eq_getElem hl, ?_⟩
  have := (alike_iff _ _).1 (List.findIdx_getElem (w := hl))
  rw [h3] at this
  exact this
theorem firstAt_other {k : Nat} {f : Frg} (hf : fs[k]? = some f) (h3 : f.sect ≠ 3) : firstAt fs k = k := by unfold firstAt; rw [hf]; exact if_neg h3
theorem firstAt_alike {j k : Nat} {f g : Frg} (hf : fs[k]? = some f) (hg : fs[j]? = some g) (h3 : f.sect = 3) (hs : g.sect = 3) (ha : g.align = f.align) (hb : g.bs = f.bs) : firstAt fs j = firstAt fs k := by
  unfold firstAt
  rw [hf, hg]
  simp only [h3, hs, if_true]
  congr 1
  funext x
  unfold Frg.alike
  rw [h3, hs, ha, hb]
theorem firstAt_min {j k : Nat} {f g : Frg} (hf : fs[k]? = some f) (hg : fs[j]? = some g) (h3 : f.sect = 3) (hs : g.sect = 3) (ha : g.align = f.align) (hb : g.bs = f.bs) : firstAt fs k ≤ j := by
  rw [← firstAt_alike hf hg h3 hs ha hb]; exact firstAt_le j
/-- What has no place of its own. -/
theorem firstAt_iff {k : Nat} {f : Frg} (hf : fs[k]? = some f) (h3 : f.sect = 3) : firstAt fs k ≠ k ↔ ∃ j, j < k ∧ ∃ g, fs[j]? = some g ∧ g.sect = 3 ∧ g.align = f.align ∧ g.bs = f.bs := by
  constructor
  · intro h
    obtain ⟨g, h1, h2⟩ := firstAt_text hf h3
    exact ⟨firstAt fs k, by have := firstAt_le (fs := fs) k; omega, g, h1, h2⟩
  · rintro ⟨j, hj, g, hg, h1, h2, h4⟩
    have := firstAt_min hf hg h3 h1 h2 h4
    omega
theorem firstAt_twice (k : Nat) : firstAt fs (firstAt fs k) = firstAt fs k := by
  rcases hf : fs[k]? with _ | f
  · have : firstAt fs k = k := by unfold firstAt; rw [hf]
    rw [this, this]
  · by_cases h3 : f.sect = 3
    · obtain ⟨g, h1, h2, h4, h5⟩ := firstAt_text hf h3
      exact firstAt_alike hf h1 h3 h2 h4 h5
    · rw [firstAt_other hf h3, firstAt_other hf h3]

theorem posAt_step {s : Int} {a k : Nat} {f : Frg} (hf : fs[k]? = some f) (h1 : f.sect = s) (h2 : firstAt fs k = k) : posAt fs s a (k + 1) = upN (posAt fs s a k) f.al + f.ln := by
  rw [posAt, hf]; exact if_pos ⟨h1, h2⟩
theorem posAt_skip {s : Int} {a k : Nat} {f : Frg} (hf : fs[k]? = some f) (h : f.sect ≠ s ∨ firstAt fs k ≠ k) : posAt fs s a (k + 1) = posAt fs s a k := by
  rw [posAt, hf]; exact if_neg (fun h' => h.elim (fun h => h h'.1) (fun h => h h'.2))
theorem posAt_next (hl : Lays fs) (s : Int) (a k : Nat) : posAt fs s a k ≤ posAt fs s a (k + 1) ∧ posAt fs s a (k + 1) ≤ posAt fs s a k + 72 := by
  rcases hf : fs[k]? with _ | f
  · have e : posAt fs s a (k + 1) = posAt fs s a k := by rw [posAt, hf]
    omega
  · have hm := List.mem_of_getElem? hf
    have h1 := hl.al0 hm
    have h2 := hl.ln0 hm
    by_cases h : f.sect = s ∧ firstAt fs k = k
    · rw [posAt_step hf h.1 h.2]
      have := upN_le (posAt fs s a k) f.al h1.1
      have := upN_lt (posAt fs s a k) f.al h1.1
      omega
    · rw [posAt_skip hf (Decidable.not_and_iff_or_not.1 h)]; omega
theorem posAt_up (hl : Lays fs) (s : Int) (a j : Nat) : ∀ k, j ≤ k → posAt fs s a j ≤ posAt fs s a k
  | 0, h => by obtain rfl : j = 0 := by omega
               exact Nat.le_refl _
  | k + 1, h => by
    rcases Nat.lt_or_ge k j with h1 | h1
    · obtain rfl : j = k + 1 := by omega
      exact Nat.le_refl _
    · exact Nat.le_trans (posAt_up hl s a j k h1) (posAt_next hl s a k).1
theorem posAt_far (hl : Lays fs) (s : Int) (a : Nat) : ∀ k, posAt fs s a k ≤ a + 72 * k
  | 0 => Nat.le_refl _
  | k + 1 => by have := posAt_far hl s a k; have := (posAt_next hl s a k).2; omega
theorem posAt_mono (hl : Lays fs) (s : Int) {a b : Nat} (h : a ≤ b) : ∀ k, posAt fs s a k ≤ posAt fs s b k
  | 0 => h
  | k + 1 => by
    have ih := posAt_mono hl s h k
    rcases hf : fs[k]? with _ | f
    · rw [posAt, posAt, hf]; exact ih
    · by_cases h : f.sect = s ∧ firstAt fs k = k
      · rw [posAt_step hf h.1 h.2, posAt_step hf h.1 h.2]
        exact Nat.add_le_add_right (upN_mono _ ih) _
      · rw [posAt_skip hf (Decidable.not_and_iff_or_not.1 h), posAt_skip hf (Decidable.not_and_iff_or_not.1 h)]; exact ih
theorem posAt_moved (hl : Lays fs) (s : Int) (a m : Nat) (hm : 16 ∣ m) : ∀ k, posAt fs s (a + m) k = posAt fs s a k + m
  | 0 => rfl
  | k + 1 => by
    have ih := posAt_moved hl s a m hm k
    rcases hf : fs[k]? with _ | f
    · rw [posAt, posAt, hf]; exact ih
    · by_cases h : f.sect = s ∧ firstAt fs k = k
      · have h1 := hl.al0 (List.mem_of_getElem? hf)
        rw [posAt_step hf h.1 h.2, posAt_step hf h.1 h.2, ih, upN_add _ _ _ h1.1 (Nat.dvd_trans h1.2.2.2 hm)]
        omega
      · rw [posAt_skip hf (Decidable.not_and_iff_or_not.1 h), posAt_skip hf (Decidable.not_and_iff_or_not.1 h)]; exact ih
theorem secEnd_next (hl : Lays fs) (base s : Nat) : secEnd fs base s ≤ secFrom fs base (s + 1) ∧ secFrom fs base (s + 1) ≤ secEnd fs base (s + 1) ∧ secFrom fs base (s + 1) < secEnd fs base s + 16 ∧ secEnd fs base (s + 1) ≤ secEnd fs base s + 4336 := by
  unfold secFrom
  rw [Nat.add_sub_cancel]
  have h1 := upN_le (secEnd fs base s) 16 (by omega)
  have h2 := upN_lt (secEnd fs base s) 16 (by omega)
  have h3 := posAt_up hl ((s : Int) + 1) (upN (secEnd fs base s) 16) 0 fs.length (Nat.zero_le _)
  have h4 := posAt_far hl ((s : Int) + 1) (upN (secEnd fs base s) 16) fs.length
  have hn := hl.n
  have e : posAt fs ((s : Int) + 1) (upN (secEnd fs base s) 16) 0 = upN (secEnd fs base s) 16 := rfl
  have e2 : secEnd fs base (s + 1) = posAt fs ((s : Int) + 1) (upN (secEnd fs base s) 16) fs.length := rfl
  omega
theorem secEnd_moved (hl : Lays fs) (base m : Nat) (hm : 16 ∣ m) : ∀ s, secEnd fs (base + m) s = secEnd fs base s + m
  | 0 => rfl
  | s + 1 => by
    rw [secEnd, secEnd, secEnd_moved hl base m hm s, upN_add _ _ _ (by omega) hm, posAt_moved hl _ _ _ hm]
theorem secFrom_moved (hl : Lays fs) (base m : Nat) (hm : 16 ∣ m) (s : Nat) : secFrom fs (base + m) s = secFrom fs base s + m := by
  unfold secFrom
  rw [secEnd_moved hl _ _ hm, upN_add _ _ _ (by omega) hm]
theorem plcAt_eq {k : Nat} {g : Frg} (a : Nat) (hg : fs[firstAt fs k]? = some g) : plcAt fs a k = upN (posAt fs g.sect a (firstAt fs k)) g.al := by unfold plcAt; rw [hg]
theorem adrOf_eq {k : Nat} {f : Frg} (base : Nat) (hf : fs[k]? = some f) : adrOf fs base k = plcAt fs (secFrom fs base f.sect.toNat) k := by unfold adrOf; rw [hf]
/-- The fragment that stands where k does. -/
theorem first_get {k : Nat} {f : Frg} (hf : fs[k]? = some f) : ∃ g, fs[firstAt fs k]? = some g ∧ g.sect = f.sect ∧ g.align = f.align ∧ (f.sect = 3 → g.bs = f.bs) ∧ g.ln = f.ln := by
  by_cases h3 : f.sect = 3
  · obtain ⟨g, h1, h2, h4, h5⟩ := firstAt_text hf h3
    refine ⟨g, h1, by rw [h2, h3], h4, fun _ => h5, ?_⟩
    unfold Frg.ln Frg.long
    rw [h2, h3, h5, if_neg (by decide), if_neg (by decide)]
  · rw [firstAt_other hf h3]
    exact ⟨f, hf, rfl, rfl, fun h => absurd h h3, rfl⟩
theorem adrOf_moved (hl : Lays fs) (base m : Nat) (hm : 16 ∣ m) {k : Nat} (hk : k < fs.length) : adrOf fs (base + m) k = adrOf fs base k + m := by
  obtain ⟨f, hf⟩ : ∃ f, fs[k]? = some f := ⟨_, List.getElem?_eq_getElem hk⟩
  obtain ⟨g, hg, _⟩ := first_get hf
  have h1 := hl.al0 (List.mem_of_getElem? hg)
  rw [adrOf_eq _ hf, adrOf_eq _ hf, plcAt_eq _ hg, plcAt_eq _ hg, secFrom_moved hl _ _ hm, posAt_moved hl _ _ _ hm, upN_add _ _ _ h1.1 (Nat.dvd_trans h1.2.2.2 hm)]
end
/-- The common names, one behind the other. -/
structure CSt where
  at_ : Nat
  ns : List ByteArray
  cs : List Nat
def comStep (dfs : List Df) (st : CSt) (n : ByteArray) : CSt :=
  if (findL dfs n).2 = 0 ∧ (findL dfs n).1.kind = 3 then
    ⟨upN st.at_ (findL dfs n).1.align.toNat + (findL dfs n).1.size.toNat, st.ns ++ [n], st.cs ++ [upN st.at_ (findL dfs n).1.align.toNat]⟩
  else st
def comAt (dfs : List Df) (a : Nat) (l : List ByteArray) : CSt := l.foldl (comStep dfs) ⟨a, [], []⟩
theorem comAt_snoc (dfs : List Df) (a : Nat) (l : List ByteArray) (n : ByteArray) : comAt dfs a (l ++ [n]) = comStep dfs (comAt dfs a l) n := by unfold comAt; rw [List.foldl_append]; rfl
theorem comStep_yes {dfs : List Df} {st : CSt} {n : ByteArray} {d : Df} (h : findL dfs n = (d, 0)) (h3 : d.kind = 3) : comStep dfs st n = ⟨upN st.at_ d.align.toNat + d.size.toNat, st.ns ++ [n], st.cs ++ [upN st.at_ d.align.toNat]⟩ := by
  unfold comStep; rw [h]; exact if_pos ⟨rfl, h3⟩
theorem comStep_no {dfs : List Df} {st : CSt} {n : ByteArray} (h : ¬ ((findL dfs n).2 = 0 ∧ (findL dfs n).1.kind = 3)) : comStep dfs st n = st := if_neg h

/-- A common definition that may be. -/
def Df.comOk (d : Df) : Prop := d.kind = 3 → (d.align = 1 ∨ d.align = 2 ∨ d.align = 4 ∨ d.align = 8) ∧ 1 ≤ d.size ∧ d.size ≤ 64
theorem comOk_step {s : ByteArray} {st : Df × Bool} {d : Df} (h : st.1.comOk) (hd : d.comOk) : (findStep s st d).1.comOk := by
  unfold findStep
  split
  · exact h
  · split
    · exact h
    · split
      · intro h; exact absurd h (by decide)
      · split
        · exact hd
        · split
          · rename_i _ _ _ h4 h5
            intro _
            obtain ⟨a1, a2, a3⟩ := h h5.2
            obtain ⟨b1, b2, b3⟩ := hd h5.1
            simp only
            refine ⟨?_, by omega, by omega⟩
            rcases a1 with e | e | e | e <;> rcases b1 with e' | e' | e' | e' <;> rw [e, e'] <;> decide
          · exact h
theorem comOk_fold {s : ByteArray} : ∀ (l : List Df) (st : Df × Bool), st.1.comOk → (∀ d ∈ l, d.comOk) → (l.foldl (findStep s) st).1.comOk
  | [], _, h, _ => h
  | d :: r, st, h, hl => comOk_fold r _ (comOk_step h (hl d (by simp))) (fun d' hd' => hl d' (by simp [hd']))
theorem comOk_find {dfs : List Df} (hl : ∀ d ∈ dfs, d.comOk) (s : ByteArray) : (findL dfs s).1.comOk := by
  have hz : Df.zero.comOk := fun h => absurd h (by decide)
  unfold findL findEnd
  split
  · exact hz
  · split
    · exact hz
    · exact comOk_fold dfs _ hz hl
theorem comOk_of {p : Prt} (h : ckPart p = 0) : ∀ d ∈ p.dfs, d.comOk := by
  intro d hd h3
  have h1 := ((ok_iff p).1 h).df d hd
  unfold ckDef at h1
  split at h1
  · cases h1
  · rw [if_neg (by omega)] at h1
    split at h1
    · cases h1
    · rename_i g
      refine ⟨alignB_iff.1 ?_, by omega, by omega⟩
      rcases hb : alignB d.align with _ | _
      · exact absurd (.inr (.inr (.inr (.inr hb)))) g
      · rfl
theorem com_al {d : Df} (h : d.comOk) (h3 : d.kind = 3) : 0 < d.align.toNat ∧ d.align.toNat ≤ 8 ∧ (d.align.toNat : Int) = d.align ∧ d.align.toNat ∣ 16 ∧ d.size.toNat ≤ 64 ∧ 1 ≤ d.size.toNat ∧ (d.size.toNat : Int) = d.size := by
  obtain ⟨h1, h2, h4⟩ := h h3
  refine ⟨by omega, by omega, by omega, ?_, by omega, by omega, by omega⟩
  rcases h1 with e | e | e | e <;> rw [e] <;> decide
theorem com_cases (dfs : List Df) (n : ByteArray) : (∃ d, findL dfs n = (d, 0) ∧ d.kind = 3) ∨ ¬ ((findL dfs n).2 = 0 ∧ (findL dfs n).1.kind = 3) := by
  by_cases h : (findL dfs n).2 = 0 ∧ (findL dfs n).1.kind = 3
  · exact .inl ⟨_, by rw [← h.1], h.2⟩
  · exact .inr h
/-- What holds of common names laid out: each aligned, one behind the other. -/
structure Com (dfs : List Df) (a : Nat) (l : List ByteArray) (st : CSt) : Prop where
  len : st.ns.length = st.cs.length
  sub : st.ns.Sublist l
  le : a ≤ st.at_
  far : st.at_ ≤ a + 72 * l.length
  each : ∀ (i : Nat) (n : ByteArray) (c : Nat), st.ns[i]? = some n → st.cs[i]? = some c → ∃ d, findL dfs n = (d, 0) ∧ d.kind = 3 ∧ c % d.align.toNat = 0 ∧ a ≤ c ∧ c + d.size.toNat ≤ st.at_ ∧ ∀ (j : Nat) (n' : ByteArray) (c' : Nat), i < j → st.ns[j]? = some n' → st.cs[j]? = some c' → c + d.size.toNat ≤ c'
theorem Com.step {dfs : List Df} (hd : ∀ d ∈ dfs, d.comOk) {a : Nat} {l : List ByteArray} {st : CSt} (h : Com dfs a l st) (n : ByteArray) : Com dfs a (l ++ [n]) (comStep dfs st n) := by
  rcases com_cases dfs n with ⟨d, hf, h3⟩ | hno
  · rw [comStep_yes hf h3]
    have hc : d.comOk := by have := comOk_find hd n; rw [hf] at this; exact this
    obtain ⟨a1, a2, a3, a4, a5, a6, a7⟩ := com_al hc h3
    have u1 := upN_le st.at_ d.align.toNat a1
    have u2 := upN_lt st.at_ d.align.toNat a1
    have hle := h.le
    have hfar := h.far
    refine ⟨by simp [h.len], h.sub.append (List.Sublist.refl _), by simp only; omega, by simp only [List.length_append, List.length_singleton]; omega, ?_⟩
    intro i n' c' h1 h2
    simp only at h1 h2 ⊢
    rcases Nat.lt_or_ge i st.ns.length with hi | hi
    · rw [List.getElem?_append_left hi] at h1
      rw [List.getElem?_append_left (by rw [← h.len]; exact hi)] at h2
      obtain ⟨d', e1, e2, e3, e4, e5, e6⟩ := h.each i n' c' h1 h2
      refine ⟨d', e1, e2, e3, e4, by omega, ?_⟩
      intro j m c'' hij hj1 hj2
      rcases Nat.lt_or_ge j st.ns.length with hj | hj
      · rw [List.getElem?_append_left hj] at hj1
        rw [List.getElem?_append_left (by rw [← h.len]; exact hj)] at hj2
        exact e6 j m c'' hij hj1 hj2
      · rw [List.getElem?_append_right (by rw [← h.len]; exact hj)] at hj2
        obtain rfl : c'' = upN st.at_ d.align.toNat := by
          rcases hx : j - st.cs.length with _ | x
          · rw [hx] at hj2; simpa using hj2.symm
          · rw [hx] at hj2; simp at hj2
        omega
    · rw [List.getElem?_append_right hi] at h1
      rw [List.getElem?_append_right (by rw [← h.len]; exact hi)] at h2
      have hx : i = st.ns.length := by
        rcases hx : i - st.ns.length with _ | x
        · omega
        · rw [hx] at h1; simp at h1
      subst hx
      have hl := h.len
      rw [hl, Nat.sub_self] at h2
      rw [Nat.sub_self] at h1
      obtain rfl : n = n' := by simpa using h1
      obtain rfl : upN st.at_ d.align.toNat = c' := by simpa using h2
      refine ⟨d, hf, h3, upN_mod _ _, by omega, Nat.le_refl _, ?_⟩
      intro j m c'' hij hj1 hj2
      have := (List.getElem?_eq_some_iff.1 hj1).1
      simp at this
      omega
  · rw [comStep_no hno]
    exact ⟨h.len, h.sub.trans (List.sublist_append_left _ _), h.le, by have := h.far; simp only [List.length_append, List.length_singleton]; omega, h.each⟩
theorem com_at {dfs : List Df} (hd : ∀ d ∈ dfs, d.comOk) (a : Nat) (l : List ByteArray) : Com dfs a l (comAt dfs a l) := by
  have : ∀ (r l : List ByteArray) (st : CSt), Com dfs a l st → Com dfs a (l ++ r) (r.foldl (comStep dfs) st) := by
    intro r
    induction r with
    | nil => intro l st h; rw [List.append_nil]; exact h
    | cons x r ih =>
      intro l st h
      have := ih _ _ (h.step hd x)
      rw [List.append_assoc] at this
      exact this
  have h := this l [] ⟨a, [], []⟩ ⟨rfl, List.Sublist.refl _, Nat.le_refl _, by simp, fun i n c h => by simp at h⟩
  rw [List.nil_append] at h
  exact h
theorem comAt_moved {dfs : List Df} (hd : ∀ d ∈ dfs, d.comOk) (a m : Nat) (hm : 16 ∣ m) (l : List ByteArray) : comAt dfs (a + m) l = ⟨(comAt dfs a l).at_ + m, (comAt dfs a l).ns, (comAt dfs a l).cs.map (· + m)⟩ := by
  have : ∀ (r : List ByteArray) (st : CSt), r.foldl (comStep dfs) ⟨st.at_ + m, st.ns, st.cs.map (· + m)⟩ = ⟨(r.foldl (comStep dfs) st).at_ + m, (r.foldl (comStep dfs) st).ns, (r.foldl (comStep dfs) st).cs.map (· + m)⟩ := by
    intro r
    induction r with
    | nil => intro st; rfl
    | cons x r ih =>
      intro st
      rw [List.foldl_cons, List.foldl_cons, ← ih]
      congr 1
      rcases com_cases dfs x with ⟨d, hf, h3⟩ | hno
      · have hc : d.comOk := by have := comOk_find hd x; rw [hf] at this; exact this
        obtain ⟨a1, _, _, a4, _⟩ := com_al hc h3
        rw [comStep_yes hf h3, comStep_yes hf h3, upN_add _ _ _ a1 (Nat.dvd_trans a4 hm)]
        simp only [List.map_append, List.map_cons, List.map_nil, CSt.mk.injEq, and_true, true_and]
        omega
      · rw [comStep_no hno, comStep_no hno]
  exact this l ⟨a, [], []⟩

end Go.Proofs.YtmlomnhjbmocfaaDoor

/- layout.Lay: what lies in memory while it lays: the table of texts, the row of addresses, where sections begin and end. No program in sight. -/
namespace Go.Proofs.YtmlomnhjbmocfaaDoor
open Go.RowKit Go.Maps

def strLit (s : ByteArray) : Lit := .string s.data.toList
theorem strLit_inj {s t : ByteArray} (h : strLit s = strLit t) : s = t := by
  unfold strLit at h
  injection h with h
  exact bytes_ext h
theorem strLit_key (s : ByteArray) : WideAt.IsKeyLit (strLit s) := trivial

def Frg.key (f : Frg) : ByteArray := ⟨f.bs.toArray⟩ ++ ⟨#[UInt8.ofNat f.align.toNat]⟩
theorem key_iff {f g : Frg} (hf : f.align = 1 ∨ f.align = 2 ∨ f.align = 4 ∨ f.align = 8) (hg : g.align = 1 ∨ g.align = 2 ∨ g.align = 4 ∨ g.align = 8) : g.key = f.key ↔ g.align = f.align ∧ g.bs = f.bs := by
  constructor
  · intro h
    have h1 := congrArg (fun s : ByteArray => s.data.toList) h
    simp only [Frg.key, ByteArray.data_append, Array.toList_append] at h1
    obtain ⟨h2, h3⟩ := List.append_inj' h1 rfl
    refine ⟨?_, h2⟩
    rcases hf with e | e | e | e <;> rcases hg with e' | e' | e' | e' <;> rw [e, e'] at h3 <;> first | (rw [e, e']; done) | (exact absurd h3 (by decide))
  · rintro ⟨h1, h2⟩
    unfold Frg.key
    rw [h1, h2]

/-- The table of a section's texts after k fragments. -/
structure Tex (fs : List Frg) (base : Nat) (s : Int) (k : Nat) (D : DataW Unit) : Prop where
  isMap : IsMap D
  has_ : ∀ x : ByteArray, Maps.has D (strLit x) = true ↔ ∃ j, j < k ∧ ∃ f, fs[j]? = some f ∧ f.sect = s ∧ f.key = x
  at_ : s = 3 → ∀ j, j < k → ∀ f, fs[j]? = some f → f.sect = 3 → D.atKey (strLit f.key) (.lit (.int .i64 0)) = .lit (.int .i64 (adrOf fs base j))
section
variable {fs : List Frg} {base k : Nat} {s : Int} {D : DataW Unit}
theorem tex_zero (fs : List Frg) (base : Nat) (s : Int) : Tex fs base s 0 (.map []) :=
  ⟨isMap_empty, fun x => ⟨fun h => by simp [Maps.has] at h, fun ⟨j, hj, _⟩ => absurd hj (by omega)⟩, fun _ j hj => absurd hj (by omega)⟩
theorem Tex.skip (h : Tex fs base s k D) {f : Frg} (hf : fs[k]? = some f) (hs : f.sect ≠ s) : Tex fs base s (k + 1) D := by
  refine ⟨h.isMap, fun x => (h.has_ x).trans ⟨fun ⟨j, hj, r⟩ => ⟨j, by omega, r⟩, ?_⟩, ?_⟩
  · rintro ⟨j, hj, g, hg, h1, h2⟩
    rcases Nat.lt_or_ge j k with hjk | hjk
    · exact ⟨j, hjk, g, hg, h1, h2⟩
    · obtain rfl : j = k := by omega
      rw [hf] at hg; injection hg with hg; rw [hg] at hs; exact absurd h1 hs
  · intro h3 j hj g hg hgs
    rcases Nat.lt_or_ge j k with hjk | hjk
    · exact h.at_ h3 j hjk g hg hgs
    · obtain rfl : j = k := by omega
      rw [hf] at hg; injection hg with hg; rw [hg] at hs; exact absurd (hgs.trans h3.symm) hs
theorem adr_alike (hl : Lays fs) {j k : Nat} {f g : Frg} (hf : fs[k]? = some f) (hg : fs[j]? = some g) (h3 : f.sect = 3) (hs : g.sect = 3) (he : g.key = f.key) : adrOf fs base j = adrOf fs base k := by
  obtain ⟨h1, h2⟩ := (key_iff (hl.al f (List.mem_of_getElem? hf)) (hl.al g (List.mem_of_getElem? hg))).1 he
  have e := firstAt_alike hf hg h3 hs h1 h2
  rw [adrOf_eq _ hf, adrOf_eq _ hg, h3, hs]
  unfold plcAt
  rw [e]
/-- A text that stood there already. -/
theorem Tex.old (hl : Lays fs) (h : Tex fs base 3 k D) {f : Frg} (hf : fs[k]? = some f) (hs : f.sect = 3) (hh : Maps.has D (strLit f.key) = true) :
    Tex fs base 3 (k + 1) D ∧ firstAt fs k ≠ k ∧ D.atKey (strLit f.key) (.lit (.int .i64 0)) = .lit (.int .i64 (adrOf fs base k)) := by
  obtain ⟨j, hj, g, hg, h1, h2⟩ := (h.has_ _).1 hh
  have he := adr_alike (base := base) hl hf hg hs h1 h2
  have hat := h.at_ rfl j hj g hg h1
  rw [h2, he] at hat
  refine ⟨⟨h.isMap, fun x => (h.has_ x).trans ⟨fun ⟨j, hj, r⟩ => ⟨j, by omega, r⟩, ?_⟩, ?_⟩, ?_, hat⟩
  · rintro ⟨j', hj', g', hg', h1', h2'⟩
    rcases Nat.lt_or_ge j' k with hjk | hjk
    · exact ⟨j', hjk, g', hg', h1', h2'⟩
    · obtain rfl : j' = k := by omega
      rw [hf] at hg'; injection hg' with hg'; rw [← hg'] at h2'
      exact ⟨j, hj, g, hg, h1, h2.trans h2'⟩
  · intro _ j' hj' g' hg' hgs
    rcases Nat.lt_or_ge j' k with hjk | hjk
    · exact h.at_ rfl j' hjk g' hg' hgs
    · obtain rfl : j' = k := by omega
      rw [hf] at hg'; injection hg' with hg'; rw [← hg']; exact hat
  · obtain ⟨h3, h4⟩ := (key_iff (hl.al f (List.mem_of_getElem? hf)) (hl.al g (List.mem_of_getElem? hg))).1 h2
    exact (firstAt_iff hf hs).2 ⟨j, hj, g, hg, h1, h3, h4⟩
theorem Tex.new_ (hl : Lays fs) (h : Tex fs base s k D) {f : Frg} (hf : fs[k]? = some f) (hs : f.sect = s) (hh : s = 3 → Maps.has D (strLit f.key) = false) : firstAt fs k = k := by
  by_cases h3 : f.sect = 3
  · rcases Decidable.em (firstAt fs k = k) with e | e
    · exact e
    · obtain ⟨j, hj, g, hg, h1, h2, h4⟩ := (firstAt_iff hf h3).1 e
      have := (h.has_ f.key).2 ⟨j, hj, g, hg, by rw [h1, ← hs, h3], (key_iff (hl.al f (List.mem_of_getElem? hf)) (hl.al g (List.mem_of_getElem? hg))).2 ⟨h2, h4⟩⟩
      rw [hh (by rw [← hs, h3])] at this
      cases this
  · exact firstAt_other hf h3
theorem Tex.put (hl : Lays fs) (h : Tex fs base s k D) {f : Frg} (hf : fs[k]? = some f) (hs : f.sect = s) : Tex fs base s (k + 1) (D.put (strLit f.key) (.lit (.int .i64 (adrOf fs base k)))) := by
  refine ⟨h.isMap.put _ _, fun x => ?_, ?_⟩
  · by_cases hx : x = f.key
    · subst hx
      rw [has_put_same h.isMap (strLit_key _)]
      exact ⟨fun _ => ⟨k, by omega, f, hf, hs, rfl⟩, fun _ => rfl⟩
    · rw [has_put_other (fun e => hx (strLit_inj e)), h.has_]
      constructor
      · rintro ⟨j, hj, r⟩; exact ⟨j, by omega, r⟩
      · rintro ⟨j, hj, g, hg, h1, h2⟩
        rcases Nat.lt_or_ge j k with hjk | hjk
        · exact ⟨j, hjk, g, hg, h1, h2⟩
        · obtain rfl : j = k := by omega
          rw [hf] at hg; injection hg with hg; rw [hg] at hx; exact absurd h2.symm hx
  · intro h3 j hj g hg hgs
    by_cases hx : g.key = f.key
    · rw [hx, atKey_put_same h.isMap (strLit_key _), adr_alike (base := base) hl hf hg (hs.trans h3) hgs hx]
    · rw [atKey_put_other (fun e => hx (strLit_inj e))]
      rcases Nat.lt_or_ge j k with hjk | hjk
      · exact h.at_ h3 j hjk g hg hgs
      · obtain rfl : j = k := by omega
        rw [hf] at hg; injection hg with hg; rw [hg] at hx; exact absurd rfl hx
end

/-- The addresses that are told after k fragments of section s. -/
def frAt (fs : List Frg) (base : Nat) (s : Int) (k : Nat) : List Int :=
  (List.range fs.length).map fun i => match fs[i]? with
    | some f => if f.sect < s ∨ (f.sect = s ∧ i < k) then (adrOf fs base i : Int) else 0
    | none => 0
section
variable {fs : List Frg} {base k : Nat} {s : Int}
theorem frAt_len (fs : List Frg) (base : Nat) (s : Int) (k : Nat) : (frAt fs base s k).length = fs.length := by unfold frAt; simp
theorem frAt_get {i : Nat} {f : Frg} (hf : fs[i]? = some f) : (frAt fs base s k)[i]? = some (if f.sect < s ∨ (f.sect = s ∧ i < k) then (adrOf fs base i : Int) else 0) := by
  unfold frAt
  have := (List.getElem?_eq_some_iff.1 hf).1
  rw [List.getElem?_map, List.getElem?_range this, Option.map_some, hf]
theorem frAt_ext {l : List Int} (hl : l.length = fs.length) (h : ∀ i f, fs[i]? = some f → l[i]? = some (if f.sect < s ∨ (f.sect = s ∧ i < k) then (adrOf fs base i : Int) else 0)) : l = frAt fs base s k := by
  apply List.ext_getElem?
  intro i
  rcases Nat.lt_or_ge i fs.length with hi | hi
  · have hf := List.getElem?_eq_getElem hi
    rw [h i _ hf, frAt_get hf]
  · rw [List.getElem?_eq_none (by omega), List.getElem?_eq_none (by rw [frAt_len]; exact hi)]
theorem frAt_set {f : Frg} (hf : fs[k]? = some f) (hs : f.sect = s) : (frAt fs base s k).set k (adrOf fs base k : Int) = frAt fs base s (k + 1) := by
  apply frAt_ext (by rw [List.length_set, frAt_len])
  intro i g hg
  by_cases hik : k = i
  · subst hik
    rw [hf] at hg; injection hg with hg
    rw [List.getElem?_set_self (by rw [frAt_len]; exact (List.getElem?_eq_some_iff.1 hf).1), if_pos (.inr ⟨by rw [← hg]; exact hs, by omega⟩)]
  · rw [List.getElem?_set_ne hik, frAt_get hg]
    congr 1
    by_cases h1 : g.sect < s ∨ (g.sect = s ∧ i < k)
    · rw [if_pos h1, if_pos (h1.imp id fun h => ⟨h.1, by omega⟩)]
    · rw [if_neg h1, if_neg (fun h2 => h1 (h2.imp id fun h => ⟨h.1, by omega⟩))]
theorem frAt_skip {f : Frg} (hf : fs[k]? = some f) (hs : f.sect ≠ s) : frAt fs base s k = frAt fs base s (k + 1) := by
  apply frAt_ext (frAt_len _ _ _ _)
  intro i g hg
  rw [frAt_get hg]
  congr 1
  by_cases hik : k = i
  · subst hik
    rw [hf] at hg; injection hg with hg
    subst hg
    by_cases h1 : f.sect < s
    · rw [if_pos (.inl h1), if_pos (.inl h1)]
    · rw [if_neg (by omega), if_neg (by omega)]
  · by_cases h1 : g.sect < s ∨ (g.sect = s ∧ i < k)
    · rw [if_pos h1, if_pos (h1.imp id fun h => ⟨h.1, by omega⟩)]
    · rw [if_neg h1, if_neg (fun h2 => h1 (h2.imp id fun h => ⟨h.1, by omega⟩))]
theorem frAt_next : frAt fs base s fs.length = frAt fs base (s + 1) 0 := by
  apply frAt_ext (frAt_len _ _ _ _)
  intro i g hg
  have := (List.getElem?_eq_some_iff.1 hg).1
  rw [frAt_get hg]
  congr 1
  by_cases h1 : g.sect ≤ s
  · rw [if_pos (by omega), if_pos (by omega)]
  · rw [if_neg (by omega), if_neg (by omega)]
theorem frAt_start (hl : Lays fs) : List.replicate fs.length (0 : Int) = frAt fs base 1 0 := by
  apply frAt_ext (by simp)
  intro i g hg
  have := (hl.sect g (List.mem_of_getElem? hg)).1
  rw [if_neg (by omega), List.getElem?_replicate, if_pos (List.getElem?_eq_some_iff.1 hg).1]
theorem frAt_end (hl : Lays fs) : frAt fs base 6 0 = (List.range fs.length).map fun i => (adrOf fs base i : Int) := by
  symm
  apply frAt_ext (by simp)
  intro i g hg
  have := (hl.sect g (List.mem_of_getElem? hg)).2
  rw [if_pos (by omega), List.getElem?_map, List.getElem?_range (List.getElem?_eq_some_iff.1 hg).1]
  rfl
end

/-- Six numbers, of which those from 1 to s are told. -/
def sixAt (g : Nat → Nat) (s : Nat) : List Int := (List.range 6).map fun j => if 1 ≤ j ∧ j ≤ s then (g j : Int) else 0
theorem sixAt_len (g : Nat → Nat) (s : Nat) : (sixAt g s).length = 6 := by simp [sixAt]
theorem sixAt_zero (g : Nat → Nat) : sixAt g 0 = [0, 0, 0, 0, 0, 0] := rfl
theorem sixAt_set (g : Nat → Nat) {s : Nat} (hs : s < 5) : (sixAt g s).set (s + 1) (g (s + 1) : Int) = sixAt g (s + 1) := by
  match s, hs with
  | 0, _ => rfl
  | 1, _ => rfl
  | 2, _ => rfl
  | 3, _ => rfl
  | 4, _ => rfl
theorem sixAt_five (g : Nat → Nat) : sixAt g 5 = [0, (g 1 : Int), g 2, g 3, g 4, g 5] := rfl
/-- A layout's cells. -/
def lcells (v1 v2 v3 : Value) (fr to_ : List Int) : List Value := v1 :: v2 :: v3 :: (intsV fr ++ intsV to_)
theorem lcells_from {v1 v2 v3 : Value} {fr to_ : List Int} {j : Nat} (hj : j < fr.length) (n : Int) : (lcells v1 v2 v3 fr to_).set (3 + j) (.int .i64 n) = lcells v1 v2 v3 (fr.set j n) to_ := by
  unfold lcells
  rw [Nat.add_comm 3 j]
  simp only [List.set_cons_succ]
  rw [List.set_append_left _ _ (by simpa [intsV] using hj)]
  unfold intsV
  rw [List.map_set]; rfl
theorem lcells_to {v1 v2 v3 : Value} {fr to_ : List Int} (hf : fr.length = 6) (j : Nat) (n : Int) : (lcells v1 v2 v3 fr to_).set (9 + j) (.int .i64 n) = lcells v1 v2 v3 fr (to_.set j n) := by
  unfold lcells
  rw [show 9 + j = 6 + j + 3 by omega]
  simp only [List.set_cons_succ]
  have hl : (intsV fr).length = 6 := by simpa [intsV] using hf
  rw [List.set_append_right _ _ (by omega), hl, Nat.add_sub_cancel_left]
  unfold intsV
  rw [List.map_set]; rfl
theorem lcells_len {v1 v2 v3 : Value} {fr to_ : List Int} (hf : fr.length = 6) (ht : to_.length = 6) : (lcells v1 v2 v3 fr to_).length = 15 := by simp [lcells, intsV, hf, ht]
end Go.Proofs.YtmlomnhjbmocfaaDoor

/- slices.Equal over bytes, places, definitions, texts; slices.Index and Contains over texts. -/
namespace Go.Proofs.YtmlomnhjbmocfaaDoor
open Go.RowKit

theorem toList_inj {a b : ByteArray} : a.toList = b.toList ↔ a = b := by
  rw [ByteArray.toList_eq, ByteArray.toList_eq]
  exact ⟨bytes_ext, fun h => by rw [h]⟩
theorem toList_beq (a b : ByteArray) : (a.toList == b.toList) = (a == b) := by
  rw [Bool.eq_iff_iff, beq_iff_eq, beq_iff_eq]; exact toList_inj
instance decRel : DecidableEq Rel := fun a b => decidable_of_iff (a.at_ = b.at_ ∧ a.kind = b.kind ∧ a.name = b.name ∧ a.frag = b.frag ∧ a.add = b.add) (by cases a; cases b; simp)
instance decDf : DecidableEq Df := fun a b => decidable_of_iff (a.name = b.name ∧ a.kind = b.kind ∧ a.frag = b.frag ∧ a.at_ = b.at_ ∧ a.size = b.size ∧ a.align = b.align) (by cases a; cases b; simp)
instance decFrg : DecidableEq Frg := fun a b => decidable_of_iff (a.sect = b.sect ∧ a.align = b.align ∧ a.group = b.group ∧ a.bs = b.bs ∧ a.size = b.size ∧ a.rs = b.rs) (by cases a; cases b; simp)
instance decPrt : DecidableEq Prt := fun a b => decidable_of_iff (a.frs = b.frs ∧ a.dfs = b.dfs) (by cases a; cases b; simp)

theorem relFields : ((Tryd.prog.fieldsOf 93).toList.map fun f => (f.name != "_", f.type, f.offset)) = [(true, 3, 0), (true, 3, 1), (true, 9, 2), (true, 3, 3), (true, 3, 4)] := by kernel_rfl
theorem relUnder : Tryd.prog.underlying 93 = some (.struct (Tryd.prog.fieldsOf 93)) := by kernel_rfl
theorem relStood : Tryd.prog.stoodInHeld 93 = false := by kernel_rfl
theorem relPart0 (a b : Int) (s : ByteArray) (c d : Int) (w : World) : (part 3 #[.int .i64 a, .int .i64 b, .string s, .int .i64 c, .int .i64 d] 0).run Tryd.prog w = .ok (.int .i64 a) w := by kernel_rfl
theorem relPart1 (a b : Int) (s : ByteArray) (c d : Int) (w : World) : (part 3 #[.int .i64 a, .int .i64 b, .string s, .int .i64 c, .int .i64 d] 1).run Tryd.prog w = .ok (.int .i64 b) w := by kernel_rfl
theorem relPart2 (a b : Int) (s : ByteArray) (c d : Int) (w : World) : (part 9 #[.int .i64 a, .int .i64 b, .string s, .int .i64 c, .int .i64 d] 2).run Tryd.prog w = .ok (.string s) w := by kernel_rfl
theorem relPart3 (a b : Int) (s : ByteArray) (c d : Int) (w : World) : (part 3 #[.int .i64 a, .int .i64 b, .string s, .int .i64 c, .int .i64 d] 3).run Tryd.prog w = .ok (.int .i64 c) w := by kernel_rfl
theorem relPart4 (a b : Int) (s : ByteArray) (c d : Int) (w : World) : (part 3 #[.int .i64 a, .int .i64 b, .string s, .int .i64 c, .int .i64 d] 4).run Tryd.prog w = .ok (.int .i64 d) w := by kernel_rfl
theorem rel_neq (x y : Rel) (w : World) : (binOp .neq 93 (.agg #[.int .i64 x.at_, .int .i64 x.kind, .string x.name, .int .i64 x.frag, .int .i64 x.add]) (.agg #[.int .i64 y.at_, .int .i64 y.kind, .string y.name, .int .i64 y.frag, .int .i64 y.add])).run Tryd.prog w = .ok (.bool (x != y)) w := by
  rw [run_neq_struct, run_equalIn_struct w 9999 _ _ _ relUnder relStood]
  have hf := relFields
  rcases hl : (Tryd.prog.fieldsOf 93).toList with _ | ⟨f0, _ | ⟨f1, _ | ⟨f2, _ | ⟨f3, _ | ⟨f4, _ | ⟨f5, r⟩⟩⟩⟩⟩⟩ <;> rw [hl] at hf <;> simp at hf
  obtain ⟨⟨n0, t0, o0⟩, ⟨n1, t1, o1⟩, ⟨n2, t2, o2⟩, ⟨n3, t3, o3⟩, ⟨n4, t4, o4⟩⟩ := hf
  simp only [Op.eqFields, t0, o0, t1, o1, t2, o2, t3, o3, t4, o4, n0, n1, n2, n3, n4, ne_eq, not_false_eq_true, if_true, Sem.run_bind, relPart0, relPart1, relPart2, relPart3, relPart4, Result.andThen_ok, run_equalIn_int w 9998 _ _ _ _ _ Tryd.underlying3, run_equalIn_string w 9998 _ _ _ Tryd.underlying9, Sem.run_ite, Sem.run_pure]
  obtain ⟨a, b, c, d, e⟩ := x
  obtain ⟨a', b', c', d', e'⟩ := y
  by_cases h1 : a = a' <;> by_cases h2 : b = b' <;> by_cases h3 : c = c' <;> by_cases h4 : d = d' <;> by_cases h5 : e = e' <;> simp [h1, h2, h3, h4, h5, bne, Rel.mk.injEq, toList_beq, toList_inj]

theorem dfFields : ((Tryd.prog.fieldsOf 70).toList.map fun f => (f.name != "_", f.type, f.offset)) = [(true, 9, 0), (true, 3, 1), (true, 3, 2), (true, 3, 3), (true, 3, 4), (true, 3, 5)] := by kernel_rfl
theorem dfUnder : Tryd.prog.underlying 70 = some (.struct (Tryd.prog.fieldsOf 70)) := by kernel_rfl
theorem dfStood : Tryd.prog.stoodInHeld 70 = false := by kernel_rfl
theorem dfPart0 (s : ByteArray) (a b c d e : Int) (w : World) : (part 9 #[.string s, .int .i64 a, .int .i64 b, .int .i64 c, .int .i64 d, .int .i64 e] 0).run Tryd.prog w = .ok (.string s) w := by kernel_rfl
theorem dfPart1 (s : ByteArray) (a b c d e : Int) (w : World) : (part 3 #[.string s, .int .i64 a, .int .i64 b, .int .i64 c, .int .i64 d, .int .i64 e] 1).run Tryd.prog w = .ok (.int .i64 a) w := by kernel_rfl
theorem dfPart2 (s : ByteArray) (a b c d e : Int) (w : World) : (part 3 #[.string s, .int .i64 a, .int .i64 b, .int .i64 c, .int .i64 d, .int .i64 e] 2).run Tryd.prog w = .ok (.int .i64 b) w := by kernel_rfl
theorem dfPart3 (s : ByteArray) (a b c d e : Int) (w : World) : (part 3 #[.string s, .int .i64 a, .int .i64 b, .int .i64 c, .int .i64 d, .int .i64 e] 3).run Tryd.prog w = .ok (.int .i64 c) w := by kernel_rfl
theorem dfPart4 (s : ByteArray) (a b c d e : Int) (w : World) : (part 3 #[.string s, .int .i64 a, .int .i64 b, .int .i64 c, .int .i64 d, .int .i64 e] 4).run Tryd.prog w = .ok (.int .i64 d) w := by kernel_rfl
theorem dfPart5 (s : ByteArray) (a b c d e : Int) (w : World) : (part 3 #[.string s, .int .i64 a, .int .i64 b, .int .i64 c, .int .i64 d, .int .i64 e] 5).run Tryd.prog w = .ok (.int .i64 e) w := by kernel_rfl
theorem df_neq (x y : Df) (w : World) : (binOp .neq 70 (.agg #[.string x.name, .int .i64 x.kind, .int .i64 x.frag, .int .i64 x.at_, .int .i64 x.size, .int .i64 x.align]) (.agg #[.string y.name, .int .i64 y.kind, .int .i64 y.frag, .int .i64 y.at_, .int .i64 y.size, .int .i64 y.align])).run Tryd.prog w = .ok (.bool (x != y)) w := by
  rw [run_neq_struct, run_equalIn_struct w 9999 _ _ _ dfUnder dfStood]
  have hf := dfFields
  rcases hl : (Tryd.prog.fieldsOf 70).toList with _ | ⟨f0, _ | ⟨f1, _ | ⟨f2, _ | ⟨f3, _ | ⟨f4, _ | ⟨f5, _ | ⟨f6, r⟩⟩⟩⟩⟩⟩⟩ <;> rw [hl] at hf <;> simp at hf
  obtain ⟨⟨n0, t0, o0⟩, ⟨n1, t1, o1⟩, ⟨n2, t2, o2⟩, ⟨n3, t3, o3⟩, ⟨n4, t4, o4⟩, ⟨n5, t5, o5⟩⟩ := hf
  simp only [Op.eqFields, t0, o0, t1, o1, t2, o2, t3, o3, t4, o4, t5, o5, n0, n1, n2, n3, n4, n5, ne_eq, not_false_eq_true, if_true, Sem.run_bind, dfPart0, dfPart1, dfPart2, dfPart3, dfPart4, dfPart5, Result.andThen_ok, run_equalIn_int w 9998 _ _ _ _ _ Tryd.underlying3, run_equalIn_string w 9998 _ _ _ Tryd.underlying9, Sem.run_ite, Sem.run_pure]
  obtain ⟨a, b, c, d, e, f⟩ := x
  obtain ⟨a', b', c', d', e', f'⟩ := y
  by_cases h1 : a = a' <;> by_cases h2 : b = b' <;> by_cases h3 : c = c' <;> by_cases h4 : d = d' <;> by_cases h5 : e = e' <;> by_cases h6 : f = f' <;> simp [h1, h2, h3, h4, h5, h6, bne, Df.mk.injEq, toList_beq, toList_inj]

set_option maxHeartbeats 1000000 in
theorem equalBytes_any (A A' : Option Addr) (c c' : Nat) (l l' : List UInt8) (w : World) (h : Reads w w.heap.size 1 A l.length (bytesV l)) (h' : Reads w w.heap.size 1 A' l'.length (bytesV l')) (hm : l.length ≤ 9223372036854775807) :
    Calls Tryd.prog 72 #[.slice A l.length c, .slice A' l'.length c'] w fun e w' => e = .returned (.bool (l == l')) ∧ Below w.heap.size w w' := by
  by_cases hlen : l.length = l'.length
  · have hne : ((l.length : Int) != (l'.length : Int)) = false := by rw [hlen]; simp
    have HL := Lib.hid hlen
    have l0 : l.length ≤ l'.length := by omega
    clear hlen
    go_enter Tryd.func72, Tryd.ntmps72
    go_wp2
    go_loopw [13] (fun i wr => ∃ k : Nat, k ≤ l.length ∧ i = .int .i64 k ∧ Hid (l.take k = l'.take k) ∧ Below w.heap.size w wr) (fun i _ => l.length - (intOf i).toNat)
    case atStart => exact ⟨0, Nat.zero_le _, rfl, rfl, Below.refl _ _⟩
    case round =>
      obtain ⟨k, hk, rfl, htk, hb⟩ := hrel
      by_cases hlt : k < l.length
      · have hlt' : k < l'.length := by omega
        obtain ⟨b, off, u, rfl, _, hu, hc⟩ := (h.below hb).at_ hlt
        rw [show (bytesV l)[k]? = some (byteV l[k]) by simp [bytesV, hlt]] at hu
        cases hu
        obtain ⟨b', off', u, rfl, _, hu, hc'⟩ := (h'.below hb).at_ hlt'
        rw [show (bytesV l')[k]? = some (byteV l'[k]) by simp [bytesV, hlt']] at hu
        cases hu
        obtain ⟨x, hx⟩ : ∃ x, l[k] = x := ⟨_, rfl⟩
        obtain ⟨y, hy⟩ : ∃ y, l'[k] = y := ⟨_, rfl⟩
        have HX := Lib.hid hx
        have HY := Lib.hid hy
        rw [hx] at hc
        rw [hy] at hc'
        clear hx hy
        unfold byteV at hc hc'
        by_cases hxy : x = y
        · have hn : (((x.toNat : Nat) : Int) != ((y.toNat : Nat) : Int)) = false := by rw [hxy]; simp
          have HXY := Lib.hid hxy
          clear hxy
          go_wp2
          go_quiet (fail)
          go_wp2
          go_roundw
          case rel => exact ⟨k + 1, by omega, by go_num, by show l.take (k + 1) = l'.take (k + 1); rw [List.take_succ_eq_append_getElem hlt, List.take_succ_eq_append_getElem hlt', htk.out, HX.out, HY.out, HXY.out], by (repeat' (first | exact Below.refl _ _ | assumption | refine Below.setCell ?_ (by first | omega | exact Below.size (by assumption) | (simp; done) | (simp; omega)) _ | refine Below.alloc ?_ (by first | omega | exact Below.size (by assumption) | (simp; done) | (simp; omega)) _ | refine Below.drew ?_ | refine below_drewN ?_ _))⟩
          case measure => simp [intOf]; omega
        · have hn : (((x.toNat : Nat) : Int) != ((y.toNat : Nat) : Int)) = true := by exact bne_iff_ne.2 fun e => hxy (UInt8.toNat_inj.1 (by omega))
          have HXY := Lib.hid hxy
          clear hxy
          go_wp2
          go_quiet (fail)
          go_wp2
          go_ret
          refine ⟨ret_val (by
            have : (l == l') = false := by
              rw [beq_eq_false_iff_ne]
              intro e
              subst e
              exact HXY.out (HX.out.symm.trans HY.out)
            rw [this]; rfl), by (repeat' (first | exact Below.refl _ _ | assumption | refine Below.setCell ?_ (by first | omega | exact Below.size (by assumption) | (simp; done) | (simp; omega)) _ | refine Below.alloc ?_ (by first | omega | exact Below.size (by assumption) | (simp; done) | (simp; omega)) _ | refine Below.drew ?_ | refine below_drewN ?_ _))⟩
      · go_wp2
        go_ret
        refine ⟨ret_val (by
          have hk' : k = l.length := by omega
          have : l = l' := by
            have := htk.out
            rw [hk', List.take_length] at this
            rw [HL.out, List.take_length] at this
            exact this
          rw [this]; simp), by (repeat' (first | exact Below.refl _ _ | assumption | refine Below.setCell ?_ (by first | omega | exact Below.size (by assumption) | (simp; done) | (simp; omega)) _ | refine Below.alloc ?_ (by first | omega | exact Below.size (by assumption) | (simp; done) | (simp; omega)) _ | refine Below.drew ?_ | refine below_drewN ?_ _))⟩
  · have hne : ((l.length : Int) != (l'.length : Int)) = true := by simp; omega
    have HL := Lib.hid hlen
    clear hlen
    go_enter Tryd.func72, Tryd.ntmps72
    go_wp2
    go_ret
    refine ⟨ret_val (by
      have : (l == l') = false := by
        rw [beq_eq_false_iff_ne]
        intro e
        exact HL.out (by rw [e])
      rw [this]; rfl), Below.refl _ _⟩

set_option maxHeartbeats 1000000 in
theorem equalRels_any (A A' : Option Addr) (c c' : Nat) (l l' : List Rel) (w : World) (h : Reads w w.heap.size 5 A l.length (relsV l)) (h' : Reads w w.heap.size 5 A' l'.length (relsV l')) (hm : l.length ≤ 9223372036854775807) :
    Calls Tryd.prog 57 #[.slice A l.length c, .slice A' l'.length c'] w fun e w' => e = .returned (.bool (l == l')) ∧ Below w.heap.size w w' := by
  by_cases hlen : l.length = l'.length
  · have hne : ((l.length : Int) != (l'.length : Int)) = false := by rw [hlen]; simp
    have HL := Lib.hid hlen
    have l0 : l.length ≤ l'.length := by omega
    clear hlen
    go_enter Tryd.func57, Tryd.ntmps57
    go_wp2
    go_loopw [13] (fun i wr => ∃ k : Nat, k ≤ l.length ∧ i = .int .i64 k ∧ Hid (l.take k = l'.take k) ∧ Below w.heap.size w wr) (fun i _ => l.length - (intOf i).toNat)
    case atStart => exact ⟨0, Nat.zero_le _, rfl, rfl, Below.refl _ _⟩
    case round =>
      obtain ⟨k, hk, rfl, htk, hb⟩ := hrel
      by_cases hlt : k < l.length
      · have hlt' : k < l'.length := by omega
        obtain ⟨x, hx⟩ : ∃ x, l[k] = x := ⟨_, rfl⟩
        obtain ⟨y, hy⟩ : ∃ y, l'[k] = y := ⟨_, rfl⟩
        have HX := Lib.hid hx
        have HY := Lib.hid hy
        have hx' : l[k]? = some x := by rw [List.getElem?_eq_getElem hlt, hx]
        have hy' : l'[k]? = some y := by rw [List.getElem?_eq_getElem hlt', hy]
        obtain ⟨b, off, rfl, _, c0, c1, c2, c3, c4⟩ := rel_get (h.below hb) hx'
        obtain ⟨b', off', rfl, _, d0, d1, d2, d3, d4⟩ := rel_get (h'.below hb) hy'
        have hq := rel_neq x y
        clear hx hy hx' hy'
        by_cases hxy : x = y
        · have hn : (x != y) = false := by simpa using hxy
          rw [hn] at hq
          have HXY := Lib.hid hxy
          clear hxy
          go_wp2
          go_quiet (fail)
          go_wp2
          go_roundw
          case rel => exact ⟨k + 1, by omega, by go_num, by show l.take (k + 1) = l'.take (k + 1); rw [List.take_succ_eq_append_getElem hlt, List.take_succ_eq_append_getElem hlt', htk.out, HX.out, HY.out, HXY.out], by (repeat' (first | exact Below.refl _ _ | assumption | refine Below.setCell ?_ (by first | omega | exact Below.size (by assumption) | (simp; done) | (simp; omega)) _ | refine Below.alloc ?_ (by first | omega | exact Below.size (by assumption) | (simp; done) | (simp; omega)) _ | refine Below.drew ?_ | refine below_drewN ?_ _))⟩
          case measure => simp [intOf]; omega
        · have hn : (x != y) = true := by simpa using hxy
          rw [hn] at hq
          have HXY := Lib.hid hxy
          clear hxy
          go_wp2
          go_quiet (fail)
          go_wp2
          go_ret
          refine ⟨ret_val (by
            have : (l == l') = false := by
              rw [beq_eq_false_iff_ne]
              intro e
              subst e
              exact HXY.out (HX.out.symm.trans HY.out)
            rw [this]; rfl), by (repeat' (first | exact Below.refl _ _ | assumption | refine Below.setCell ?_ (by first | omega | exact Below.size (by assumption) | (simp; done) | (simp; omega)) _ | refine Below.alloc ?_ (by first | omega | exact Below.size (by assumption) | (simp; done) | (simp; omega)) _ | refine Below.drew ?_ | refine below_drewN ?_ _))⟩
      · go_wp2
        go_ret
        refine ⟨ret_val (by
          have hk' : k = l.length := by omega
          have : l = l' := by
            have := htk.out
            rw [hk', List.take_length] at this
            rw [HL.out, List.take_length] at this
            exact this
          rw [this]; simp), by (repeat' (first | exact Below.refl _ _ | assumption | refine Below.setCell ?_ (by first | omega | exact Below.size (by assumption) | (simp; done) | (simp; omega)) _ | refine Below.alloc ?_ (by first | omega | exact Below.size (by assumption) | (simp; done) | (simp; omega)) _ | refine Below.drew ?_ | refine below_drewN ?_ _))⟩
  · have hne : ((l.length : Int) != (l'.length : Int)) = true := by simp; omega
    have HL := Lib.hid hlen
    clear hlen
    go_enter Tryd.func57, Tryd.ntmps57
    go_wp2
    go_ret
    refine ⟨ret_val (by
      have : (l == l') = false := by
        rw [beq_eq_false_iff_ne]
        intro e
        exact HL.out (by rw [e])
      rw [this]; rfl), Below.refl _ _⟩
set_option maxHeartbeats 1000000 in
theorem equalDefs_any (A A' : Option Addr) (c c' : Nat) (l l' : List Df) (w : World) (h : Reads w w.heap.size 6 A l.length (dfsV l)) (h' : Reads w w.heap.size 6 A' l'.length (dfsV l')) (hm : l.length ≤ 9223372036854775807) :
    Calls Tryd.prog 56 #[.slice A l.length c, .slice A' l'.length c'] w fun e w' => e = .returned (.bool (l == l')) ∧ Below w.heap.size w w' := by
  by_cases hlen : l.length = l'.length
  · have hne : ((l.length : Int) != (l'.length : Int)) = false := by rw [hlen]; simp
    have HL := Lib.hid hlen
    have l0 : l.length ≤ l'.length := by omega
    clear hlen
    go_enter Tryd.func56, Tryd.ntmps56
    go_wp2
    go_loopw [13] (fun i wr => ∃ k : Nat, k ≤ l.length ∧ i = .int .i64 k ∧ Hid (l.take k = l'.take k) ∧ Below w.heap.size w wr) (fun i _ => l.length - (intOf i).toNat)
    case atStart => exact ⟨0, Nat.zero_le _, rfl, rfl, Below.refl _ _⟩
    case round =>
      obtain ⟨k, hk, rfl, htk, hb⟩ := hrel
      by_cases hlt : k < l.length
      · have hlt' : k < l'.length := by omega
        obtain ⟨x, hx⟩ : ∃ x, l[k] = x := ⟨_, rfl⟩
        obtain ⟨y, hy⟩ : ∃ y, l'[k] = y := ⟨_, rfl⟩
        have HX := Lib.hid hx
        have HY := Lib.hid hy
        have hx' : l[k]? = some x := by rw [List.getElem?_eq_getElem hlt, hx]
        have hy' : l'[k]? = some y := by rw [List.getElem?_eq_getElem hlt', hy]
        obtain ⟨b, off, rfl, _, c0, c1, c2, c3, c4, c5⟩ := df_get (h.below hb) hx'
        obtain ⟨b', off', rfl, _, d0, d1, d2, d3, d4, d5⟩ := df_get (h'.below hb) hy'
        have hq := df_neq x y
        clear hx hy hx' hy'
        by_cases hxy : x = y
        · have hn : (x != y) = false := by simpa using hxy
          rw [hn] at hq
          have HXY := Lib.hid hxy
          clear hxy
          go_wp2
          go_quiet (fail)
          go_wp2
          go_roundw
          case rel => exact ⟨k + 1, by omega, by go_num, by show l.take (k + 1) = l'.take (k + 1); rw [List.take_succ_eq_append_getElem hlt, List.take_succ_eq_append_getElem hlt', htk.out, HX.out, HY.out, HXY.out], by (repeat' (first | exact Below.refl _ _ | assumption | refine Below.setCell ?_ (by first | omega | exact Below.size (by assumption) | (simp; done) | (simp; omega)) _ | refine Below.alloc ?_ (by first | omega | exact Below.size (by assumption) | (simp; done) | (simp; omega)) _ | refine Below.drew ?_ | refine below_drewN ?_ _))⟩
          case measure => simp [intOf]; omega
        · have hn : (x != y) = true := by simpa using hxy
          rw [hn] at hq
          have HXY := Lib.hid hxy
          clear hxy
          go_wp2
          go_quiet (fail)
          go_wp2
          go_ret
          refine ⟨ret_val (by
            have : (l == l') = false := by
              rw [beq_eq_false_iff_ne]
              intro e
              subst e
              exact HXY.out (HX.out.symm.trans HY.out)
            rw [this]; rfl), by (repeat' (first | exact Below.refl _ _ | assumption | refine Below.setCell ?_ (by first | omega | exact Below.size (by assumption) | (simp; done) | (simp; omega)) _ | refine Below.alloc ?_ (by first | omega | exact Below.size (by assumption) | (simp; done) | (simp; omega)) _ | refine Below.drew ?_ | refine below_drewN ?_ _))⟩
      · go_wp2
        go_ret
        refine ⟨ret_val (by
          have hk' : k = l.length := by omega
          have : l = l' := by
            have := htk.out
            rw [hk', List.take_length] at this
            rw [HL.out, List.take_length] at this
            exact this
          rw [this]; simp), by (repeat' (first | exact Below.refl _ _ | assumption | refine Below.setCell ?_ (by first | omega | exact Below.size (by assumption) | (simp; done) | (simp; omega)) _ | refine Below.alloc ?_ (by first | omega | exact Below.size (by assumption) | (simp; done) | (simp; omega)) _ | refine Below.drew ?_ | refine below_drewN ?_ _))⟩
  · have hne : ((l.length : Int) != (l'.length : Int)) = true := by simp; omega
    have HL := Lib.hid hlen
    clear hlen
    go_enter Tryd.func56, Tryd.ntmps56
    go_wp2
    go_ret
    refine ⟨ret_val (by
      have : (l == l') = false := by
        rw [beq_eq_false_iff_ne]
        intro e
        exact HL.out (by rw [e])
      rw [this]; rfl), Below.refl _ _⟩
end Go.Proofs.YtmlomnhjbmocfaaDoor

/- slices.Equal, Index, Contains over texts. -/
namespace Go.Proofs.YtmlomnhjbmocfaaDoor
open Go.RowKit

def strV (s : ByteArray) : Value := .string s
def strsV (l : List ByteArray) : List Value := l.map strV
theorem strsV_flat (l : List ByteArray) : strsV l = l.flatMap (fun s : ByteArray => [.string s]) := by
  induction l with
  | nil => rfl
  | cons b l ih => rw [List.flatMap_cons, ← ih]; rfl
theorem strsV_append (l m : List ByteArray) : strsV (l ++ m) = strsV l ++ strsV m := List.map_append ..

/-- The first place of a text in a list, or -1. -/
def indexS (s : ByteArray) (l : List ByteArray) : Int := match l.findIdx? (fun t => t == s) with
  | some k => k
  | none => -1
theorem indexS_in {s : ByteArray} {l : List ByteArray} : decide (0 ≤ indexS s l) = decide (s ∈ l) := by
  unfold indexS
  rcases h : l.findIdx? (fun t => t == s) with _ | k
  · have : s ∉ l := fun hm => by
      have := List.findIdx?_eq_none_iff.1 h s hm
      simp at this
    simp [this]
  · have : s ∈ l := by
      rw [List.findIdx?_eq_some_iff_getElem] at h
      obtain ⟨hk, he, _⟩ := h
      have : l[k] = s := by simpa using he
      rw [← this]; exact List.getElem_mem hk
    simp [this]
theorem indexS_at {s : ByteArray} {l : List ByteArray} {k : Nat} (hn : ∀ x ∈ l.take k, x ≠ s) (hk : l[k]? = some s) : indexS s l = k := by
  obtain ⟨hlt, hv⟩ := List.getElem?_eq_some_iff.1 hk
  have : l.findIdx? (fun t => t == s) = some k := by
    rw [List.findIdx?_eq_some_iff_getElem]
    refine ⟨hlt, by simp [hv], fun j hj => ?_⟩
    have := hn l[j] (by rw [List.mem_take_iff_getElem]; exact ⟨j, by omega, rfl⟩)
    simpa using this
  unfold indexS
  rw [this]
theorem indexS_no {s : ByteArray} {l : List ByteArray} (hn : ∀ x ∈ l, x ≠ s) : indexS s l = -1 := by
  have : l.findIdx? (fun t => t == s) = none := List.findIdx?_eq_none_iff.2 fun x hx => by simpa using hn x hx
  unfold indexS
  rw [this]

set_option maxHeartbeats 1000000 in
theorem indexStr_any (A : Option Addr) (c : Nat) (l : List ByteArray) (s : ByteArray) (w : World) (h : Reads w w.heap.size 1 A l.length (strsV l)) (hm : l.length ≤ 9223372036854775807) :
    Calls Tryd.prog 43 #[.slice A l.length c, .string s] w fun e w' => e = .returned (.int .i64 (indexS s l)) ∧ w = w' := by
  go_enter Tryd.func43, Tryd.ntmps43
  go_wp2
  go_loop [8] (fun i => ∃ k : Nat, k ≤ l.length ∧ i = .int .i64 k ∧ Hid (∀ x ∈ l.take k, x ≠ s)) (fun i => l.length - (intOf i).toNat)
  case atStart => exact ⟨0, Nat.zero_le _, rfl, Lib.hid (by simp)⟩
  case round =>
    obtain ⟨k, hk, rfl, hn⟩ := hrel
    by_cases hlt : k < l.length
    · obtain ⟨b, off, u, rfl, _, hu, hc⟩ := h.at_ hlt
      obtain ⟨x, hx⟩ : ∃ x, l[k]? = some x := ⟨_, List.getElem?_eq_getElem hlt⟩
      rw [show (strsV l)[k]? = some (strV x) by simp [strsV, hx]] at hu
      cases hu
      unfold strV at hc
      have HX := Lib.hid hx
      clear hx
      by_cases hxs : s = x
      · have ht : (s.toList == x.toList) = true := by rw [hxs]; simp
        subst hxs
        have HI := Lib.hid (indexS_at hn.out HX.out)
        go_wp2
        go_ret
        exact ⟨ret_val (by rw [HI.out]; rfl), rfl⟩
      · have ht : (s.toList == x.toList) = false := by rw [toList_beq]; exact beq_eq_false_iff_ne.2 hxs
        have HXS := Lib.hid hxs
        clear hxs
        go_wp2
        go_round
        case rel =>
          refine ⟨k + 1, by omega, by go_num, Lib.hid ?_⟩
          rw [List.take_add_one, HX.out]
          intro y hy
          rcases List.mem_append.1 hy with hy | hy
          · exact hn.out y hy
          · obtain rfl : y = x := by simpa using hy
            exact fun e => HXS.out e.symm
        case measure => simp [intOf]; omega
    · obtain rfl : k = l.length := by omega
      have HI := Lib.hid (indexS_no (s := s) (l := l) (by have := hn.out; rwa [List.take_length] at this))
      go_wp2
      go_ret
      exact ⟨ret_val (by rw [HI.out]; rfl), rfl⟩

set_option maxHeartbeats 1000000 in
theorem equalStrs_any (A A' : Option Addr) (c c' : Nat) (l l' : List ByteArray) (w : World) (h : Reads w w.heap.size 1 A l.length (strsV l)) (h' : Reads w w.heap.size 1 A' l'.length (strsV l')) (hm : l.length ≤ 9223372036854775807) :
    Calls Tryd.prog 40 #[.slice A l.length c, .slice A' l'.length c'] w fun e w' => e = .returned (.bool (l == l')) ∧ Below w.heap.size w w' := by
  by_cases hlen : l.length = l'.length
  · have hne : ((l.length : Int) != (l'.length : Int)) = false := by rw [hlen]; simp
    have HL := Lib.hid hlen
    have l0 : l.length ≤ l'.length := by omega
    clear hlen
    go_enter Tryd.func40, Tryd.ntmps40
    go_wp2
    go_loopw [13] (fun i wr => ∃ k : Nat, k ≤ l.length ∧ i = .int .i64 k ∧ Hid (l.take k = l'.take k) ∧ Below w.heap.size w wr) (fun i _ => l.length - (intOf i).toNat)
    case atStart => exact ⟨0, Nat.zero_le _, rfl, rfl, Below.refl _ _⟩
    case round =>
      obtain ⟨k, hk, rfl, htk, hb⟩ := hrel
      by_cases hlt : k < l.length
      · have hlt' : k < l'.length := by omega
        obtain ⟨b, off, u, rfl, _, hu, hc⟩ := (h.below hb).at_ hlt
        rw [show (strsV l)[k]? = some (strV l[k]) by simp [strsV, hlt]] at hu
        cases hu
        obtain ⟨b', off', u, rfl, _, hu, hc'⟩ := (h'.below hb).at_ hlt'
        rw [show (strsV l')[k]? = some (strV l'[k]) by simp [strsV, hlt']] at hu
        cases hu
        obtain ⟨x, hx⟩ : ∃ x, l[k] = x := ⟨_, rfl⟩
        obtain ⟨y, hy⟩ : ∃ y, l'[k] = y := ⟨_, rfl⟩
        have HX := Lib.hid hx
        have HY := Lib.hid hy
        rw [hx] at hc
        rw [hy] at hc'
        clear hx hy
        unfold strV at hc hc'
        by_cases hxy : x = y
        · have hn : (x.toList == y.toList) = true := by rw [hxy]; simp
          have HXY := Lib.hid hxy
          clear hxy
          go_wp2
          go_quiet (fail)
          go_wp2
          go_roundw
          case rel => exact ⟨k + 1, by omega, by go_num, by show l.take (k + 1) = l'.take (k + 1); rw [List.take_succ_eq_append_getElem hlt, List.take_succ_eq_append_getElem hlt', htk.out, HX.out, HY.out, HXY.out], by (repeat' (first | exact Below.refl _ _ | assumption | refine Below.setCell ?_ (by first | omega | exact Below.size (by assumption) | (simp; done) | (simp; omega)) _ | refine Below.alloc ?_ (by first | omega | exact Below.size (by assumption) | (simp; done) | (simp; omega)) _ | refine Below.drew ?_ | refine below_drewN ?_ _))⟩
          case measure => simp [intOf]; omega
        · have hn : (x.toList == y.toList) = false := by exact beq_eq_false_iff_ne.2 fun e => hxy (toList_inj.1 e)
          have HXY := Lib.hid hxy
          clear hxy
          go_wp2
          go_quiet (fail)
          go_wp2
          go_ret
          refine ⟨ret_val (by
            have : (l == l') = false := by
              rw [beq_eq_false_iff_ne]
              intro e
              subst e
              exact HXY.out (HX.out.symm.trans HY.out)
            rw [this]; rfl), by (repeat' (first | exact Below.refl _ _ | assumption | refine Below.setCell ?_ (by first | omega | exact Below.size (by assumption) | (simp; done) | (simp; omega)) _ | refine Below.alloc ?_ (by first | omega | exact Below.size (by assumption) | (simp; done) | (simp; omega)) _ | refine Below.drew ?_ | refine below_drewN ?_ _))⟩
      · go_wp2
        go_ret
        refine ⟨ret_val (by
          have hk' : k = l.length := by omega
          have : l = l' := by
            have := htk.out
            rw [hk', List.take_length] at this
            rw [HL.out, List.take_length] at this
            exact this
          rw [this]; simp), by (repeat' (first | exact Below.refl _ _ | assumption | refine Below.setCell ?_ (by first | omega | exact Below.size (by assumption) | (simp; done) | (simp; omega)) _ | refine Below.alloc ?_ (by first | omega | exact Below.size (by assumption) | (simp; done) | (simp; omega)) _ | refine Below.drew ?_ | refine below_drewN ?_ _))⟩
  · have hne : ((l.length : Int) != (l'.length : Int)) = true := by simp; omega
    have HL := Lib.hid hlen
    clear hlen
    go_enter Tryd.func40, Tryd.ntmps40
    go_wp2
    go_ret
    refine ⟨ret_val (by
      have : (l == l') = false := by
        rw [beq_eq_false_iff_ne]
        intro e
        exact HL.out (by rw [e])
      rw [this]; rfl), Below.refl _ _⟩

end Go.Proofs.YtmlomnhjbmocfaaDoor

/- A set of names in a map of the call's own: map[string]bool. -/
namespace Go.Proofs.YtmlomnhjbmocfaaDoor
open Go.RowKit Go.Maps

def nmLit (s : ByteArray) : Lit := .string s.data.toList
theorem nmLit_inj {s t : ByteArray} (h : nmLit s = nmLit t) : s = t := by
  unfold nmLit at h
  injection h with h
  exact bytes_ext h
theorem nmLit_key (s : ByteArray) : WideAt.IsKeyLit (nmLit s) := trivial
theorem nm_key {s : ByteArray} (h : s.size ≤ 1000000) : Go.keyOf Tryd.prog 9 (.string s) = some (nmLit s) := Go.WideMaps.keyOf_string_mk Tryd.underlying9 (by
  unfold maxLen
  omega)
theorem nm_keyed : Keyed Tryd.prog 9 := string_keyed Tryd.underlying9
theorem zero_bool (w : World) : (zeroValue 4).run Tryd.prog w = .ok (.bool false) w := by kernel_rfl
set_option maxRecDepth 100000 in
theorem plain_bool_inv {v : Value} {z : DataW Unit × List MemPlace} (h : plainElem Tryd.prog 4 v = some z) : ∃ b, v = .bool b ∧ z = (.lit (.bool b), []) := by
  unfold plainElem at h
  rw [Tryd.underlying4] at h
  cases v <;> simp at h
  exact ⟨_, rfl, h.symm⟩

/-- Block g is a map whose keys that lead to 'true' are the names S; n entries at most. -/
def SetIs (w : World) (g n : Nat) (S : List ByteArray) : Prop :=
  ∃ D : DataW Unit, w.ownsMap Tryd.prog 9 (plainElem Tryd.prog 4) g n D ∧ ∀ x, D.atKey (nmLit x) (.lit (.bool false)) = .lit (.bool (decide (x ∈ S)))
section
variable {w w' : World} {g n : Nat} {S : List ByteArray}
theorem SetIs.new (w : World) : SetIs (w.alloc (.map #[] 0)) w.heap.size 0 [] := ⟨.map [], World.ownsMap_made w _ _ _, fun x => by simp [DataW.atKey]⟩
theorem SetIs.lt (h : SetIs w g n S) : g < w.heap.size := let ⟨_, hD, _⟩ := h; hD.lt
theorem SetIs.mono (h : SetIs w g n S) {n' : Nat} (hn : n ≤ n') : SetIs w g n' S := let ⟨D, hD, ha⟩ := h; ⟨D, hD.mono hn, ha⟩
theorem SetIs.kept (h : SetIs w g n S) {row : Option Nat} (hg : w.grownBy w' row) (hne : some g ≠ row) : SetIs w' g n S := let ⟨D, hD, ha⟩ := h; ⟨D, hD.kept hg hne, ha⟩
theorem SetIs.all (h : SetIs w g n S) (hb : Below w.heap.size w w') : SetIs w' g n S := h.kept (only_of_below hb none) (by simp)
theorem SetIs.alloc (h : SetIs w g n S) (o : Obj) : SetIs (w.alloc o) g n S := let ⟨D, hD, ha⟩ := h; ⟨D, hD.alloc o, ha⟩
theorem SetIs.drew (h : SetIs w g n S) : SetIs w.drew g n S := h
theorem SetIs.ext (h : SetIs w g n S) {S' : List ByteArray} (he : ∀ x, x ∈ S ↔ x ∈ S') : SetIs w g n S' := let ⟨D, hD, ha⟩ := h; ⟨D, hD, fun x => by rw [ha, decide_eq_decide.2 (he x)]⟩
set_option maxRecDepth 100000 in
theorem SetIs.look (h : SetIs w g n S) {s : ByteArray} (hs : s.size ≤ 1000000) : (Instr.lookup 81 (.map (some g)) (.string s) false).run Tryd.prog w = .ok (.bool (decide (s ∈ S))) w := by
  obtain ⟨D, hD, ha⟩ := h
  obtain ⟨v, ps, hrun, hv⟩ := hD.lookup nm_keyed Tryd.underlying81 (zero_bool w) (plainElem_bool Tryd.underlying4 false) (nm_key hs)
  obtain ⟨b, rfl, hz⟩ := plain_bool_inv hv
  rw [ha s] at hz
  injection hz with hz _
  injection hz with hz
  injection hz with hz
  rw [hrun, hz]
theorem DataW.atKey_cons {D : DataW Unit} (hD : IsMap D) (s x : ByteArray) {S : List ByteArray} (ha : ∀ x, D.atKey (nmLit x) (.lit (.bool false)) = .lit (.bool (decide (x ∈ S)))) :
    (D.put (nmLit s) (.lit (.bool true))).atKey (nmLit x) (.lit (.bool false)) = .lit (.bool (decide (x ∈ s :: S))) := by
  by_cases hx : x = s
  · subst hx
    rw [atKey_put_same hD (nmLit_key _)]
    simp
  · rw [atKey_put_other (fun e => hx (nmLit_inj e)), ha]
    congr 2
    exact decide_eq_decide.2 (by simp [hx])
end
/-- 'm[s] = true' at the operation. -/
theorem wpList_setPut (w : World) {ops : Array Oper} {rest : List Oper} {o : Oper} {a : Act} {Q : Exit → Act → World → Prop} (hg : o.guard = none) (m x v : Operand) (hop : o.op = Op.mapUpdate 81 m x v)
    (g n : Nat) (S : List ByteArray) (h : SetIs w g n S) (hm : a.eval m = .map (some g)) (hn : n < 1000000) (s : ByteArray) (hx : a.eval x = .string s) (hv : a.eval v = .bool true) (hs : s.size ≤ 1000000)
    (hK : ∀ w', SetIs w' g (n + 1) (s :: S) → w.grownBy w' (some g) → wpList Tryd.prog ops Q rest (a.put o.dst undef) w') : wpList Tryd.prog ops Q (o :: rest) a w := by
  obtain ⟨D, hD, ha⟩ := h
  have hM := hD.isMap
  refine wpList_mapUpdate_own w hg m x v 81 hop 9 4 nm_keyed Tryd.underlying81 _ g n D hm hD (by unfold maxLen; omega) (.string s) (.bool true) (nmLit s) hx hv (nm_key hs) _ [] (plainElem_bool Tryd.underlying4 true) ?_
  intro w' h1 h2
  exact hK w' ⟨_, h1, fun y => DataW.atKey_cons hM s y ha⟩ h2
end Go.Proofs.YtmlomnhjbmocfaaDoor

/- Slices among a row's arguments, opened. -/
namespace Go.Proofs.YtmlomnhjbmocfaaDoor
open Go.RowKit Go.ChangeShapes Go.WideShapes Go.Deep Go.Joins

section
variable {H : Type} {enc : TypeId × Value → H} {P : Program} {w : World}
theorem open_sliceArg {α : Type} {cells : α → List Value} {ok : α → Prop} {k : Nat} {t e : TypeId} {r : Reach} {b0 : Nat} {v : Value} {d : DataW H} {p : List MemPlace} (ht : P.underlying t = some (.slice e))
    (ho : Opens enc P w t (SliceIn.cells (α := α)) (SliceIn.Ok w cells ok k)) (hv : Value.okWide P w r b0 t v) (h : DataW.Trod enc P w 0 (fun _ => true) true t v d p) :
    ∃ s : SliceIn α, v = .slice s.A s.l.length s.c ∧ SliceIn.Ok w cells ok k s ∧ (s.l.length = 0 ∨ ∃ elems spare, d = .slice elems spare ∧ elems.length + spare.length = s.c) := by
  obtain ⟨a, len, cap, rfl⟩ := okWide_slice ht hv
  obtain ⟨fuel, hf⟩ := h
  obtain ⟨s, es, os⟩ := ho fuel _ _ hf
  simp [Value.cells, SliceIn.cells] at es
  obtain ⟨rfl, rfl, rfl⟩ := es
  refine ⟨s, rfl, os, ?_⟩
  rcases open_slice ht hf with ⟨h0, _⟩ | ⟨a, len, cap, m, n, D, Pl, h0, _, _, _, hm, hd, _⟩
  · simp [Value.cells] at h0
    exact .inl (by rw [h0.2.1]; rfl)
  · simp [Value.cells] at h0
    rw [if_pos rfl] at hm
    cases hd
    exact .inr ⟨_, _, rfl, by have := os.cap; simp; omega⟩

theorem opens_ints : Opens enc Tryd.prog w 26 (SliceIn.cells (α := Int)) (SliceIn.Ok w (fun n : Int => [.int .i64 n]) (fun n => (Lit.int .i64 n).wf = true) 1) :=
  opens_slice Tryd.underlying26 (by kernel_rfl) (by decide) (fun _ => rfl) (opens_int Tryd.underlying3)
theorem ints_reads {s : SliceIn Int} {ok : Int → Prop} (h : SliceIn.Ok w (fun n : Int => [.int .i64 n]) ok 1 s) : Reads w w.heap.size 1 s.A s.l.length (intsV s.l) := by
  rw [intsV_flat]; exact h.reads
theorem ints_each {s : SliceIn Int} (h : SliceIn.Ok w (fun n : Int => [.int .i64 n]) (fun n => (Lit.int .i64 n).wf = true) 1 s) : ∀ x ∈ s.l, -9223372036854775808 ≤ x ∧ x ≤ 9223372036854775807 := fun x hx => bounds_i64 (h.each x hx)
end
end Go.Proofs.YtmlomnhjbmocfaaDoor

/- Parts among a row's arguments, opened. -/
namespace Go.Proofs.YtmlomnhjbmocfaaDoor
open Go.RowKit Go.ChangeShapes Go.WideShapes Go.Deep Go.Joins
set_option maxRecDepth 100000

theorem bytesV_flat (l : List UInt8) : bytesV l = l.flatMap (fun b : UInt8 => [.int .u8 ((b.toNat : Nat) : Int)]) := by
  induction l with
  | nil => rfl
  | cons b l ih => rw [List.flatMap_cons, ← ih]; rfl

theorem Tryd.relFields : ∃ f0 f1 f2 f3 f4 : Field, Tryd.prog.underlying 93 = some (.struct #[f0, f1, f2, f3, f4]) ∧
    (f0.type, f0.offset, f1.type, f1.offset, f2.type, f2.offset, f3.type, f3.offset, f4.type, f4.offset) = (3, 0, 3, 1, 9, 2, 3, 3, 3, 4) := ⟨_, _, _, _, _, Tryd.underlying93, rfl⟩
theorem Tryd.cellsInt : Tryd.prog.cellsOf 3 = 1 := by kernel_rfl
theorem Tryd.cellsStr : Tryd.prog.cellsOf 9 = 1 := by kernel_rfl
theorem Tryd.cellsByte : Tryd.prog.cellsOf 5 = 1 := by kernel_rfl
theorem Tryd.cellsBytes : Tryd.prog.cellsOf 60 = 1 := by kernel_rfl
theorem Tryd.cellsRel : Tryd.prog.cellsOf 93 = 5 := by kernel_rfl
theorem Tryd.cellsRels : Tryd.prog.cellsOf 61 = 1 := by kernel_rfl
theorem Tryd.cellsFrag : Tryd.prog.cellsOf 63 = 6 := by kernel_rfl
theorem Tryd.cellsFrags : Tryd.prog.cellsOf 22 = 1 := by kernel_rfl
theorem Tryd.cellsDef : Tryd.prog.cellsOf 70 = 6 := by kernel_rfl
theorem Tryd.cellsDefs : Tryd.prog.cellsOf 23 = 1 := by kernel_rfl
theorem Tryd.cellsPart : Tryd.prog.cellsOf 25 = 2 := by kernel_rfl

section
variable {H : Type} {enc : TypeId × Value → H} {w : World}

theorem opens_bytes : Opens enc Tryd.prog w 60 (SliceIn.cells (α := UInt8)) (SliceIn.Ok w (fun b : UInt8 => [.int .u8 ((b.toNat : Nat) : Int)]) (fun _ => True) 1) :=
  opens_slice Tryd.underlying60 Tryd.cellsByte (by decide) (fun _ => rfl) (opens_byte Tryd.underlying5)

theorem opens_rel : Opens enc Tryd.prog w 93 Rel.cells (fun _ => True) := fun fuel cs x h => by
  obtain ⟨xs, n, _, _, hl, hxl, hf⟩ := DataW.trod_struct Tryd.underlying93 h
  rw [Tryd.cellsRel] at hl
  match cs, hl with
  | [v0, v1, v2, v3, v4], _ =>
    match xs, hxl with
    | [y0, y1, y2, y3, y4], _ =>
      obtain ⟨a, ea, _⟩ := opens_int Tryd.underlying3 n _ y0 (by simpa [Tryd.cellsInt] using hf 0 _ rfl)
      obtain ⟨b, eb, _⟩ := opens_int Tryd.underlying3 n _ y1 (by simpa [Tryd.cellsInt] using hf 1 _ rfl)
      obtain ⟨c, ec, _⟩ := opens_string Tryd.underlying9 n _ y2 (by simpa [Tryd.cellsStr] using hf 2 _ rfl)
      obtain ⟨d, ed, _⟩ := opens_int Tryd.underlying3 n _ y3 (by simpa [Tryd.cellsInt] using hf 3 _ rfl)
      obtain ⟨e, ee, _⟩ := opens_int Tryd.underlying3 n _ y4 (by simpa [Tryd.cellsInt] using hf 4 _ rfl)
      simp only [List.cons.injEq, and_true] at ea eb ec ed ee
      subst ea eb ec ed ee
      exact ⟨⟨a, b, c, d, e⟩, rfl, trivial⟩
theorem opens_def : Opens enc Tryd.prog w 70 Df.cells (fun _ => True) := fun fuel cs x h => by
  obtain ⟨xs, n, _, _, hl, hxl, hf⟩ := DataW.trod_struct Tryd.underlying70 h
  rw [Tryd.cellsDef] at hl
  match cs, hl with
  | [v0, v1, v2, v3, v4, v5], _ =>
    match xs, hxl with
    | [y0, y1, y2, y3, y4, y5], _ =>
      obtain ⟨a, ea, _⟩ := opens_string Tryd.underlying9 n _ y0 (by simpa [Tryd.cellsStr] using hf 0 _ rfl)
      obtain ⟨b, eb, _⟩ := opens_int Tryd.underlying3 n _ y1 (by simpa [Tryd.cellsInt] using hf 1 _ rfl)
      obtain ⟨c, ec, _⟩ := opens_int Tryd.underlying3 n _ y2 (by simpa [Tryd.cellsInt] using hf 2 _ rfl)
      obtain ⟨d, ed, _⟩ := opens_int Tryd.underlying3 n _ y3 (by simpa [Tryd.cellsInt] using hf 3 _ rfl)
      obtain ⟨e, ee, _⟩ := opens_int Tryd.underlying3 n _ y4 (by simpa [Tryd.cellsInt] using hf 4 _ rfl)
      obtain ⟨f, ef, _⟩ := opens_int Tryd.underlying3 n _ y5 (by simpa [Tryd.cellsInt] using hf 5 _ rfl)
      simp only [List.cons.injEq, and_true] at ea eb ec ed ee ef
      subst ea eb ec ed ee ef
      exact ⟨⟨a, b, c, d, e, f⟩, rfl, trivial⟩
theorem opens_frag : Opens enc Tryd.prog w 63 FgM.cells (fun x => x.Good w w.heap.size) := fun fuel cs x h => by
  obtain ⟨xs, n, _, _, hl, hxl, hf⟩ := DataW.trod_struct Tryd.underlying63 h
  rw [Tryd.cellsFrag] at hl
  match cs, hl with
  | [v0, v1, v2, v3, v4, v5], _ =>
    match xs, hxl with
    | [y0, y1, y2, y3, y4, y5], _ =>
      obtain ⟨a, ea, _⟩ := opens_int Tryd.underlying3 n _ y0 (by simpa [Tryd.cellsInt] using hf 0 _ rfl)
      obtain ⟨b, eb, _⟩ := opens_int Tryd.underlying3 n _ y1 (by simpa [Tryd.cellsInt] using hf 1 _ rfl)
      obtain ⟨c, ec, _⟩ := opens_string Tryd.underlying9 n _ y2 (by simpa [Tryd.cellsStr] using hf 2 _ rfl)
      obtain ⟨d, ed, od⟩ := opens_bytes (enc := enc) (w := w) n _ y3 (by simpa [Tryd.cellsBytes] using hf 3 _ rfl)
      obtain ⟨e, ee, _⟩ := opens_int Tryd.underlying3 n _ y4 (by simpa [Tryd.cellsInt] using hf 4 _ rfl)
      obtain ⟨f, ef, of⟩ := opens_slice (enc := enc) (w := w) Tryd.underlying61 Tryd.cellsRel (by decide) (fun _ => rfl) opens_rel n _ y5 (by simpa [Tryd.cellsRels] using hf 5 _ rfl)
      simp only [List.cons.injEq, and_true, SliceIn.cells] at ea eb ec ed ee ef
      subst ea eb ec ed ee ef
      exact ⟨⟨⟨a, b, c, d.l, e, f.l⟩, d.A, d.c, f.A, f.c⟩, rfl, by show Reads _ _ _ _ _ (bytesV d.l); rw [bytesV_flat]; exact od.reads, of.reads, Nat.le_trans od.cap od.max, Nat.le_trans of.cap of.max⟩
theorem opens_part : Opens enc Tryd.prog w 25 PtM.cells (fun p => p.At w w.heap.size) := fun fuel cs x h => by
  obtain ⟨xs, n, _, _, hl, hxl, hf⟩ := DataW.trod_struct Tryd.underlying25 h
  rw [Tryd.cellsPart] at hl
  match cs, hl with
  | [v0, v1], _ =>
    match xs, hxl with
    | [y0, y1], _ =>
      obtain ⟨a, ea, oa⟩ := opens_slice (enc := enc) (w := w) Tryd.underlying22 Tryd.cellsFrag (by decide) (fun _ => rfl) opens_frag n _ y0 (by simpa [Tryd.cellsFrags] using hf 0 _ rfl)
      obtain ⟨b, eb, ob⟩ := opens_slice (enc := enc) (w := w) Tryd.underlying23 Tryd.cellsDef (by decide) (fun _ => rfl) opens_def n _ y1 (by simpa [Tryd.cellsDefs] using hf 1 _ rfl)
      simp only [List.cons.injEq, and_true, SliceIn.cells] at ea eb
      subst ea eb
      exact ⟨⟨a.l, b.l, a.A, a.c, b.A, b.c⟩, rfl, oa.reads, oa.each, ob.reads, Nat.le_trans oa.cap oa.max, Nat.le_trans ob.cap ob.max⟩
theorem opens_parts : Opens enc Tryd.prog w 41 (SliceIn.cells (α := PtM)) (SliceIn.Ok w PtM.cells (fun p => p.At w w.heap.size) 2) :=
  opens_slice Tryd.underlying41 Tryd.cellsPart (by decide) (fun _ => rfl) opens_part
theorem open_partArg {r : Reach} {b0 : Nat} {v : Value} {d : DataW H} {p : List MemPlace} (hv : Value.okWide Tryd.prog w r b0 25 v) (h : DataW.Trod enc Tryd.prog w 0 (fun _ => true) true 25 v d p) :
    ∃ q : PtM, v = .agg #[.slice q.fa q.frs.length q.fc, .slice q.da q.dfs.length q.dc] ∧ q.At w w.heap.size := by
  obtain ⟨v0, v1, y0, y1, n, rfl, _, _, h0, h1⟩ := open_agg2 Tryd.underlying25 (by kernel_rfl) Tryd.cellsPart hv h
  obtain ⟨a, ea, oa⟩ := opens_slice (enc := enc) (w := w) Tryd.underlying22 Tryd.cellsFrag (by decide) (fun _ => rfl) opens_frag n _ y0 h0
  obtain ⟨b, eb, ob⟩ := opens_slice (enc := enc) (w := w) Tryd.underlying23 Tryd.cellsDef (by decide) (fun _ => rfl) opens_def n _ y1 h1
  simp only [List.cons.injEq, and_true, SliceIn.cells] at ea eb
  subst ea eb
  exact ⟨⟨a.l, b.l, a.A, a.c, b.A, b.c⟩, rfl, oa.reads, oa.each, ob.reads, Nat.le_trans oa.cap oa.max, Nat.le_trans ob.cap ob.max⟩
theorem open_partArgC {r : Reach} {b0 : Nat} {v : Value} {d : DataW H} {p : List MemPlace} (hv : Value.okWide Tryd.prog w r b0 25 v) (h : DataW.Trod enc Tryd.prog w 0 (fun _ => true) true 25 v d p) :
    ∃ q : PtM, v = .agg #[.slice q.fa q.frs.length q.fc, .slice q.da q.dfs.length q.dc] ∧ q.At w w.heap.size ∧ q.frs.length ≤ q.fc := by
  obtain ⟨v0, v1, y0, y1, n, rfl, _, _, h0, h1⟩ := open_agg2 Tryd.underlying25 (by kernel_rfl) Tryd.cellsPart hv h
  obtain ⟨a, ea, oa⟩ := opens_slice (enc := enc) (w := w) Tryd.underlying22 Tryd.cellsFrag (by decide) (fun _ => rfl) opens_frag n _ y0 h0
  obtain ⟨b, eb, ob⟩ := opens_slice (enc := enc) (w := w) Tryd.underlying23 Tryd.cellsDef (by decide) (fun _ => rfl) opens_def n _ y1 h1
  simp only [List.cons.injEq, and_true, SliceIn.cells] at ea eb
  subst ea eb
  exact ⟨⟨a.l, b.l, a.A, a.c, b.A, b.c⟩, rfl, ⟨oa.reads, oa.each, ob.reads, Nat.le_trans oa.cap oa.max, Nat.le_trans ob.cap ob.max⟩, oa.cap⟩
end
end Go.Proofs.YtmlomnhjbmocfaaDoor

/- Strings in a row among a law's arguments, opened. -/
namespace Go.Proofs.YtmlomnhjbmocfaaDoor
open Go.RowKit Go.ChangeShapes Go.WideShapes Go.Deep Go.Joins
set_option maxRecDepth 100000

theorem opens_strs {H : Type} {enc : TypeId × Value → H} {w : World} : Opens enc Tryd.prog w 27 (SliceIn.cells (α := ByteArray)) (SliceIn.Ok w (fun s : ByteArray => [.string s]) (fun s => s.size ≤ maxLen) 1) :=
  opens_slice Tryd.underlying27 Tryd.cellsStr (by decide) (fun _ => rfl) (opens_string Tryd.underlying9)
theorem strs_reads {w : World} {s : SliceIn ByteArray} {ok : ByteArray → Prop} (h : SliceIn.Ok w (fun s : ByteArray => [.string s]) ok 1 s) : Reads w w.heap.size 1 s.A s.l.length (strsV s.l) := by
  rw [strsV_flat]; exact h.reads
end Go.Proofs.YtmlomnhjbmocfaaDoor
