/- LkG: texts that belong together. -/
import Derived.Laws.EntriesVeiled
import Derived.Laws.StructEq
import Derived.Test.YtbhjdinjoonngaaBC
import Derived.Test.YtbhjdinjoonngaaEqP
import Derived.Test.YtbhjdinjoonngaaFaultW
import Derived.Test.YtbhjdinjoonngaaLkB
import Derived.Test.YtbhjdinjoonngaaTwoW
set_option linter.all false
/- link.Link's plain law: linked farther on; what is told; an image's three segments. No program in sight. -/
namespace Go.Proofs.Ytbhjdinjoonngaa
open Go.RowKit

/-! ### linked sixteen addresses farther -/
theorem com_moved {p : Prt} {base : Nat} (hc : ckPart p = 0) {s : ByteArray} {d : Df} (h : findL p.dfs s = (d, 0)) (h3 : d.kind = 3) : comAdr p (base + 16) s = comAdr p base s + 16 := by
  have hin := lay_ns_in hc base h h3
  obtain ⟨k, hk, e⟩ := List.getElem_of_mem hin
  have hk' : (layEnd p base).ns[k]? = some s := by rw [List.getElem?_eq_getElem hk, e]
  have hl := lay_len hc base
  obtain ⟨c, hcc⟩ : ∃ c, (layEnd p base).cs[k]? = some c := ⟨_, List.getElem?_eq_getElem (by omega)⟩
  rw [comAdr_eq hk' hcc]
  have hm := layEnd_moved hc base 16 (Nat.dvd_refl 16)
  refine comAdr_eq (k := k) ?_ ?_
  · rw [hm]; exact hk'
  · rw [hm]; simp [hcc]
theorem where_moved {p : Prt} {base : Nat} {s : ByteArray} (hc : ckPart p = 0) (h0 : (whereA p base s).2 = 0) : whereA p (base + 16) s = ((whereA p base s).1 + 16, 0) := by
  have hl := lays_of hc
  rw [where_err hc] at h0
  obtain ⟨d, hd⟩ : ∃ d, findL p.dfs s = (d, 0) := ⟨_, by rw [← h0]⟩
  unfold whereA
  rw [findP_good hc, hd]
  simp only [ne_eq, not_true_eq_false, if_false]
  split
  · rename_i h3
    rw [com_moved hc hd h3]
    rfl
  · rename_i h3
    obtain ⟨f0, f1, f, hf, _⟩ := (counts_of hc hd).at_ h3
    rw [adrOf_moved hl base 16 (Nat.dvd_refl 16) (List.getElem?_eq_some_iff.1 hf).1]
    simp only [Prod.mk.injEq, and_true]
    omega
theorem seg_len {p : Prt} {base : Nat} {sects : List Int} {f la : Nat} (h : layE p base = 0) (ht : Trio sects f la) : (segP p base f la sects).bs.length = segEnd p base la - secFrom p.frs base f :=
  seg_in (layE_zero h).1 (seg_into h ht) p.frs.length (Nat.le_refl _)
theorem segEnd_moved {p : Prt} (hc : ckPart p = 0) (base la : Nat) : segEnd p (base + 16) la = segEnd p base la + 16 := by
  unfold segEnd
  split <;> exact toN_moved hc _ _ (Nat.dvd_refl 16) _
theorem seg_moved {p : Prt} {base : Nat} {sects : List Int} {f la : Nat} (h : layE p base = 0) (h' : layE p ((base + 16 : Nat) : Int) = 0) (ht : Trio sects f la) :
    (segP p (base + 16) f la sects).at_ = (segP p base f la sects).at_ + 16 ∧ (segP p (base + 16) f la sects).bs.length = (segP p base f la sects).bs.length ∧ (segP p (base + 16) f la sects).zeros = (segP p base f la sects).zeros ∧
      (segP p (base + 16) f la sects).writes = (segP p base f la sects).writes ∧ (segP p (base + 16) f la sects).works = (segP p base f la sects).works := by
  obtain ⟨hc, _⟩ := layE_zero h
  refine ⟨secFrom_moved (lays_of hc) _ _ (Nat.dvd_refl 16) _, ?_, ?_, rfl, rfl⟩
  · rw [seg_len h ht, seg_len h' ht, segEnd_moved hc, secFrom_moved (lays_of hc) _ _ (Nat.dvd_refl 16)]
    omega
  · show (if la = 5 then toN p (base + 16) 5 - toN p (base + 16) 4 else 0) = (if la = 5 then toN p base 5 - toN p base 4 else 0)
    split
    · rw [toN_moved hc _ _ (Nat.dvd_refl 16), toN_moved hc _ _ (Nat.dvd_refl 16)]
      omega
    · rfl
theorem linkE_moved {p : Prt} {base : Nat} {entry : ByteArray} (h : linkE p base entry = 0) (hb : base ≤ 65504) : linkE p ((base + 16 : Nat) : Int) entry = 0 ∨ linkE p ((base + 16 : Nat) : Int) entry = 10 := by
  have hE : ckPart p = 0 ∧ nameB entry = true ∧ layE p base = 0 := by
    unfold linkE at h
    split at h
    · rename_i h1; exact absurd h h1
    · rename_i h1
      split at h
      · cases h
      · rename_i h2; exact ⟨by simpa using h1, by simpa using h2, h⟩
  obtain ⟨hc, hn, hl⟩ := hE
  unfold linkE
  rw [if_neg (by simp [hc]), if_neg (by simp [hn])]
  unfold layE
  rw [if_neg (by simp [hc]), if_neg (by omega)]
  split
  · exact .inr rfl
  · exact .inl rfl

/-! ### three segments -/
theorem segs3 {segs : List Seg} {a b c : SgP} (h : segs.map Seg.er = [a, b, c].map SgP.seg) : ∃ g1 g2 g3, segs = [g1, g2, g3] ∧ g1.er = a.seg ∧ g2.er = b.seg ∧ g3.er = c.seg := by
  rcases segs with _ | ⟨g1, _ | ⟨g2, _ | ⟨g3, _ | ⟨g4, r⟩⟩⟩⟩
  · simp at h
  · simp at h
  · simp at h
  · simp only [List.map_cons, List.map_nil, List.cons.injEq, and_true] at h
    exact ⟨g1, g2, g3, rfl, h.1, h.2.1, h.2.2⟩
  · simp at h
theorem er_at {g : Seg} {s : SgP} (h : g.er = s.seg) : g.At = (s.at_ : Int) ∧ g.Bytes = s.bs ∧ g.Zeros = (s.zeros : Int) ∧ g.Writes = s.writes ∧ g.Works = s.works := by
  unfold Seg.er SgP.seg at h
  injection h with h1 h2 h3 h4 h5 h6 h7
  exact ⟨h1, h2, h3, h4, h5⟩
theorem segs0 {segs : List Seg} (h : segs.map Seg.er = ([] : List SgP).map SgP.seg) : segs = [] := by
  simpa using h

/-! ### what is told -/
/-- A fault that may be told of a place. -/
def Flx.okIn (p : Prt) (f : Flx) : Prop := f.name = ⟨#[]⟩ ∧ 0 ≤ f.frag ∧ f.frag < p.frs.length ∧ (f.e = 8 ∨ f.e = 9) ∧ ∃ g, p.frs[f.frag.toNat]? = some g ∧ ∃ r ∈ g.rs, r.at_ = f.at_
theorem filled_told {p : Prt} {base i : Nat} (h : layE p base = 0) : ∀ f ∈ (filledP p base i).2, f.okIn p := by
  intro f hf
  unfold filledP at hf
  rcases hg : p.frs[i]? with _ | g
  · rw [hg] at hf; simp at hf
  · rw [hg] at hf
    simp only at hf
    rcases fold_faults g.rs (g.bs, []) f hf with h1 | ⟨r, hr, h1, h2, h3, h4⟩
    · simp at h1
    · have hlt := (List.getElem?_eq_some_iff.1 hg).1
      have he := place_err h hg hr h2 h3 h4
      subst h1
      exact ⟨rfl, by simp only; omega, by simp only; omega, he, g, by simpa using hg, r, hr, rfl⟩
/-- All faults: those of names; of the entry, if it is defined nowhere; those of places. -/
theorem told_rest {p : Prt} {base : Nat} {entry : ByteArray} (h : layE p base = 0) : ∃ r, linkFl p base entry = (faultsP p).map Flt.x ++ r ∧ ∀ f ∈ r, (f.name = entry ∧ f.e = 7 ∧ (findL p.dfs entry).2 = 7) ∨ f.okIn p := by
  obtain ⟨hc, _⟩ := layE_zero h
  refine ⟨(if (whereA p base entry).2 = 7 ∧ entry ∉ (faultsP p).map Flt.name then [⟨7, entry, 0, 0⟩] else []) ++ (List.range p.frs.length).flatMap fun i => (filledP p base i).2, ?_, ?_⟩
  · unfold linkFl linkFl0
    rw [List.append_assoc]
  · intro f hf
    rcases List.mem_append.1 hf with hf | hf
    · split at hf
      · rename_i h7
        obtain rfl := List.mem_singleton.1 hf
        rw [where_err hc] at h7
        exact .inl ⟨rfl, rfl, h7.1⟩
      · cases hf
    · obtain ⟨i, _, hi⟩ := List.mem_flatMap.1 hf
      exact .inr (filled_told h f hi)
end Go.Proofs.Ytbhjdinjoonngaa

/- Definitions and faults held against each other. -/
namespace Go.Proofs.Ytbhjdinjoonngaa
open Go.RowKit

instance decFlt : DecidableEq Flt := fun a b => decidable_of_iff (a.e = b.e ∧ a.name = b.name) (by cases a; cases b; simp)
theorem Flt.cells_len (f : Flt) : f.cells.length = 4 := rfl
theorem flt_get {w : World} {B : Nat} {A : Option Addr} {l : List Flt} (h : Reads w B 4 A l.length (fltsV l)) {i : Nat} {x : Flt} (hx : l[i]? = some x) :
    ∃ b off, A = some ⟨b, off, none⟩ ∧ b < B ∧ w.cell? ⟨b, off + i * 4, none⟩ = some (.int .i64 x.e) ∧ w.cell? ⟨b, off + i * 4 + 1, none⟩ = some (.string x.name) ∧ w.cell? ⟨b, off + i * 4 + 2, none⟩ = some (.int .i64 0) ∧ w.cell? ⟨b, off + i * 4 + 3, none⟩ = some (.int .i64 0) := by
  obtain ⟨b, off, e, hb, hc⟩ := cells_get Flt.cells_len h hx
  exact ⟨b, off, e, hb, hc 0 _ rfl, hc 1 _ rfl, hc 2 _ rfl, hc 3 _ rfl⟩

theorem fltFields : ((Try.prog.fieldsOf 114).toList.map fun f => (f.name != "_", f.type, f.offset)) = [(true, 32, 0), (true, 9, 1), (true, 3, 2), (true, 3, 3)] := by kernel_rfl
theorem fltUnder : Try.prog.underlying 114 = some (.struct (Try.prog.fieldsOf 114)) := by kernel_rfl
theorem fltStood : Try.prog.stoodInHeld 114 = false := by kernel_rfl
theorem fltPart0 (a : Int) (s : ByteArray) (b c : Int) (w : World) : (part 32 #[.int .i64 a, .string s, .int .i64 b, .int .i64 c] 0).run Try.prog w = .ok (.int .i64 a) w := by kernel_rfl
theorem fltPart1 (a : Int) (s : ByteArray) (b c : Int) (w : World) : (part 9 #[.int .i64 a, .string s, .int .i64 b, .int .i64 c] 1).run Try.prog w = .ok (.string s) w := by kernel_rfl
theorem fltPart2 (a : Int) (s : ByteArray) (b c : Int) (w : World) : (part 3 #[.int .i64 a, .string s, .int .i64 b, .int .i64 c] 2).run Try.prog w = .ok (.int .i64 b) w := by kernel_rfl
theorem fltPart3 (a : Int) (s : ByteArray) (b c : Int) (w : World) : (part 3 #[.int .i64 a, .string s, .int .i64 b, .int .i64 c] 3).run Try.prog w = .ok (.int .i64 c) w := by kernel_rfl
theorem flt_neq (x y : Flt) (w : World) : (binOp .neq 114 (.agg #[.int .i64 x.e, .string x.name, .int .i64 0, .int .i64 0]) (.agg #[.int .i64 y.e, .string y.name, .int .i64 0, .int .i64 0])).run Try.prog w = .ok (.bool (x != y)) w := by
  rw [run_neq_struct, run_equalIn_struct w 9999 _ _ _ fltUnder fltStood]
  have hf := fltFields
  rcases hl : (Try.prog.fieldsOf 114).toList with _ | ⟨f0, _ | ⟨f1, _ | ⟨f2, _ | ⟨f3, _ | ⟨f4, r⟩⟩⟩⟩⟩ <;> rw [hl] at hf <;> simp at hf
  obtain ⟨⟨n0, t0, o0⟩, ⟨n1, t1, o1⟩, ⟨n2, t2, o2⟩, ⟨n3, t3, o3⟩⟩ := hf
  simp only [Op.eqFields, t0, o0, t1, o1, t2, o2, t3, o3, n0, n1, n2, n3, ne_eq, not_false_eq_true, if_true, Sem.run_bind, fltPart0, fltPart1, fltPart2, fltPart3, Result.andThen_ok, run_equalIn_int w 9998 _ _ _ _ _ Try.underlying3, run_equalIn_int w 9998 _ _ _ _ _ Try.underlying32, run_equalIn_string w 9998 _ _ _ Try.underlying9, Sem.run_ite, Sem.run_pure]
  obtain ⟨a, b⟩ := x
  obtain ⟨a', b'⟩ := y
  by_cases h1 : a = a' <;> by_cases h2 : b = b' <;> simp [h1, h2, bne, Flt.mk.injEq, toList_beq, toList_inj]
theorem df_eql (x y : Df) (w : World) : (binOp .eql 78 (.agg #[.string x.name, .int .i64 x.kind, .int .i64 x.frag, .int .i64 x.at_, .int .i64 x.size, .int .i64 x.align]) (.agg #[.string y.name, .int .i64 y.kind, .int .i64 y.frag, .int .i64 y.at_, .int .i64 y.size, .int .i64 y.align])).run Try.prog w = .ok (.bool (x == y)) w := by
  rw [run_eql_struct, run_equalIn_struct w 9999 _ _ _ dfUnder dfStood]
  have hf := dfFields
  rcases hl : (Try.prog.fieldsOf 78).toList with _ | ⟨f0, _ | ⟨f1, _ | ⟨f2, _ | ⟨f3, _ | ⟨f4, _ | ⟨f5, _ | ⟨f6, r⟩⟩⟩⟩⟩⟩⟩ <;> rw [hl] at hf <;> simp at hf
  obtain ⟨⟨n0, t0, o0⟩, ⟨n1, t1, o1⟩, ⟨n2, t2, o2⟩, ⟨n3, t3, o3⟩, ⟨n4, t4, o4⟩, ⟨n5, t5, o5⟩⟩ := hf
  simp only [Op.eqFields, t0, o0, t1, o1, t2, o2, t3, o3, t4, o4, t5, o5, n0, n1, n2, n3, n4, n5, ne_eq, not_false_eq_true, if_true, Sem.run_bind, dfPart0, dfPart1, dfPart2, dfPart3, dfPart4, dfPart5, Result.andThen_ok, run_equalIn_int w 9998 _ _ _ _ _ Try.underlying3, run_equalIn_string w 9998 _ _ _ Try.underlying9, Sem.run_ite, Sem.run_pure]
  obtain ⟨a, b, c, d, e, f⟩ := x
  obtain ⟨a', b', c', d', e', f'⟩ := y
  by_cases h1 : a = a' <;> by_cases h2 : b = b' <;> by_cases h3 : c = c' <;> by_cases h4 : d = d' <;> by_cases h5 : e = e' <;> by_cases h6 : f = f' <;> simp [h1, h2, h3, h4, h5, h6, Df.mk.injEq, toList_beq, toList_inj]
set_option maxHeartbeats 1000000 in
theorem equalFlts_any (A A' : Option Addr) (c c' : Nat) (l l' : List Flt) (w : World) (h : Reads w w.heap.size 4 A l.length (fltsV l)) (h' : Reads w w.heap.size 4 A' l'.length (fltsV l')) (hm : l.length ≤ 9223372036854775807) :
    Calls Try.prog 52 #[.slice A l.length c, .slice A' l'.length c'] w fun e w' => e = .returned (.bool (l == l')) ∧ Below w.heap.size w w' := by
  by_cases hlen : l.length = l'.length
  · have hne : ((l.length : Int) != (l'.length : Int)) = false := by rw [hlen]; simp
    have HL := Lib.hid hlen
    have l0 : l.length ≤ l'.length := by omega
    clear hlen
    go_enter Try.func52, Try.ntmps52
    go_wp2
    go_loopw [13] (fun i wr => ∃ k : Nat, k ≤ l.length ∧ i = .int .i64 k ∧ Hid (l.take k = l'.take k) ∧ Below w.heap.size w wr) (fun i _ => l.length - (intOf i).toNat)
    case atStart => exact ⟨0, Nat.zero_le _, rfl, rfl, Below.refl _ _⟩
    case round =>
      obtain ⟨k, hk, rfl, htk, hb⟩ := hrel
      by_cases hlt : k < l.length
      · have hlt' : k < l'.length := by omega
        obtain ⟨x, hx⟩ : ∃ x, l[k] = x := ⟨_, rfl⟩
        obtain ⟨y, hy⟩ : ∃ y, l'[k] = y := ⟨_, rfl⟩
        have HX := Lib.hid hx
        have HY := Lib.hid hy
        have hx' : l[k]? = some x := by rw [List.getElem?_eq_getElem hlt, hx]
        have hy' : l'[k]? = some y := by rw [List.getElem?_eq_getElem hlt', hy]
        obtain ⟨b, off, rfl, _, c0, c1, c2, c3⟩ := flt_get (h.below hb) hx'
        obtain ⟨b', off', rfl, _, d0, d1, d2, d3⟩ := flt_get (h'.below hb) hy'
        have hq := flt_neq x y
        clear hx hy hx' hy'
        by_cases hxy : x = y
        · have hn : (x != y) = false := by simpa using hxy
          rw [hn] at hq
          have HXY := Lib.hid hxy
          clear hxy
          go_wp2
          go_quiet (fail)
          go_wp2
          go_roundw
          case rel => exact ⟨k + 1, by omega, by go_num, by show l.take (k + 1) = l'.take (k + 1); rw [List.take_succ_eq_append_getElem hlt, List.take_succ_eq_append_getElem hlt', htk.out, HX.out, HY.out, HXY.out], by (repeat' (first | exact Below.refl _ _ | assumption | refine Below.setCell ?_ (by first | omega | exact Below.size (by assumption) | (simp; done) | (simp; omega)) _ | refine Below.alloc ?_ (by first | omega | exact Below.size (by assumption) | (simp; done) | (simp; omega)) _ | refine Below.drew ?_ | refine below_drewN ?_ _))⟩
          case measure => simp [intOf]; omega
        · have hn : (x != y) = true := by simpa using hxy
          rw [hn] at hq
          have HXY := Lib.hid hxy
          clear hxy
          go_wp2
          go_quiet (fail)
          go_wp2
          go_ret
          refine ⟨ret_val (by
            have : (l == l') = false := by
              rw [beq_eq_false_iff_ne]
              intro e
              subst e
              exact HXY.out (HX.out.symm.trans HY.out)
            rw [this]; rfl), by (repeat' (first | exact Below.refl _ _ | assumption | refine Below.setCell ?_ (by first | omega | exact Below.size (by assumption) | (simp; done) | (simp; omega)) _ | refine Below.alloc ?_ (by first | omega | exact Below.size (by assumption) | (simp; done) | (simp; omega)) _ | refine Below.drew ?_ | refine below_drewN ?_ _))⟩
      · go_wp2
        go_ret
        refine ⟨ret_val (by
          have hk' : k = l.length := by omega
          have : l = l' := by
            have := htk.out
            rw [hk', List.take_length] at this
            rw [HL.out, List.take_length] at this
            exact this
          rw [this]; simp), by (repeat' (first | exact Below.refl _ _ | assumption | refine Below.setCell ?_ (by first | omega | exact Below.size (by assumption) | (simp; done) | (simp; omega)) _ | refine Below.alloc ?_ (by first | omega | exact Below.size (by assumption) | (simp; done) | (simp; omega)) _ | refine Below.drew ?_ | refine below_drewN ?_ _))⟩
  · have hne : ((l.length : Int) != (l'.length : Int)) = true := by simp; omega
    have HL := Lib.hid hlen
    clear hlen
    go_enter Try.func52, Try.ntmps52
    go_wp2
    go_ret
    refine ⟨ret_val (by
      have : (l == l') = false := by
        rw [beq_eq_false_iff_ne]
        intro e
        exact HL.out (by rw [e])
      rw [this]; rfl), Below.refl _ _⟩
end Go.Proofs.Ytbhjdinjoonngaa

/- ropewalklaw.found: the call returns true. -/
namespace Go.Proofs.Ytbhjdinjoonngaa
open Go.RowKit

def foundP : Prt := ⟨[⟨4, 1, ⟨#[]⟩, [1, 2], 0, []⟩], [⟨⟨#[120]⟩, 2, 0, 1, 0, 0⟩, ⟨⟨#[120]⟩, 3, 0, 0, 4, 2⟩, ⟨⟨#[121]⟩, 1, 0, 0, 0, 0⟩, ⟨⟨#[121]⟩, 1, 0, 2, 0, 0⟩, ⟨⟨#[120]⟩, 3, 0, 0, 3, 8⟩]⟩
theorem found_x : findP foundP ⟨#[120]⟩ = (⟨⟨#[120]⟩, 3, 0, 0, 4, 8⟩, 0) := by kernel_rfl
theorem found_y : findP foundP ⟨#[121]⟩ = (⟨⟨#[]⟩, 0, 0, 0, 0, 0⟩, 6) := by kernel_rfl
theorem found_ck : ckPart foundP = 0 := by kernel_rfl
theorem setS_eq {l : List ByteArray} {k : List (List UInt8)} (h : (l.map keyOf).mergeSort (fun x y => decide (x ≤ y)) = k) : setS l = (Lib.compact k).map ofKey := by
  unfold setS compS
  rw [sortS_key, h]
theorem found_s1 : ([[120], [120], [121], [121], [120]] : List (List UInt8)).mergeSort (fun x y => decide (x ≤ y)) = [[120], [120], [120], [121], [121]] := by
  have h1 : ([120] : List UInt8) ≤ [121] := by decide
  have h2 : ¬ ([121] : List UInt8) ≤ [120] := by decide
  simp [List.mergeSort, List.MergeSort.Internal.splitInTwo, List.merge, h1, h2]
theorem found_s2 : ([[120], [121]] : List (List UInt8)).mergeSort (fun x y => decide (x ≤ y)) = [[120], [121]] := by
  have h1 : ([120] : List UInt8) ≤ [121] := by decide
  simp [List.mergeSort, List.MergeSort.Internal.splitInTwo, h1]
theorem found_d : definedP foundP = [⟨#[120]⟩, ⟨#[121]⟩] := (setS_eq (l := foundP.dfs.map Df.name) found_s1).trans (by kernel_rfl)
theorem found_w : wantedP foundP = [] := (setS_eq (l := foundP.frs.flatMap wantedF) (k := []) (by simp [foundP, wantedF])).trans (by kernel_rfl)
theorem found_f : faultsP foundP = [⟨6, ⟨#[121]⟩⟩] := by
  unfold faultsP
  have e : setS (([] : List ByteArray) ++ [⟨#[120]⟩, ⟨#[121]⟩]) = [⟨#[120]⟩, ⟨#[121]⟩] := (setS_eq (l := [(⟨#[120]⟩ : ByteArray), ⟨#[121]⟩]) found_s2).trans (by kernel_rfl)
  have e2 : List.filterMap (fltOf foundP.dfs) [⟨#[120]⟩, ⟨#[121]⟩] = [⟨6, ⟨#[121]⟩⟩] := by kernel_rfl
  rw [found_d, found_w]
  exact (congrArg (List.filterMap (fltOf foundP.dfs)) e).trans e2

set_option maxHeartbeats 2000000 in
theorem foundW0 (w : World) : Blk ((((w.alloc (.cells #[.int .u8 1, .int .u8 2] 5)).alloc (.cells #[.int .i64 4, .int .i64 1, .string ⟨#[]⟩, .slice (some ⟨w.heap.size, 0, none⟩) 2 2, .int .i64 0, .slice none 0 0] 100)).alloc (.cells #[.string ⟨#[120]⟩, .int .i64 2, .int .i64 0, .int .i64 1, .int .i64 0, .int .i64 0, .string ⟨#[120]⟩, .int .i64 3, .int .i64 0, .int .i64 0, .int .i64 4, .int .i64 2, .string ⟨#[121]⟩, .int .i64 1, .int .i64 0, .int .i64 0, .int .i64 0, .int .i64 0, .string ⟨#[121]⟩, .int .i64 1, .int .i64 0, .int .i64 2, .int .i64 0, .int .i64 0, .string ⟨#[120]⟩, .int .i64 3, .int .i64 0, .int .i64 0, .int .i64 3, .int .i64 8] 78)).alloc (.cells #[.slice (some ⟨w.heap.size + 1, 0, none⟩) 1 1, .slice (some ⟨w.heap.size + 1 + 1, 0, none⟩) 5 5] 44)) (w.heap.size + 3) 44 #[.slice (some ⟨w.heap.size + 1, 0, none⟩) 1 1, .slice (some ⟨w.heap.size + 1 + 1, 0, none⟩) 5 5] ∧
    Below w.heap.size w ((((w.alloc (.cells #[.int .u8 1, .int .u8 2] 5)).alloc (.cells #[.int .i64 4, .int .i64 1, .string ⟨#[]⟩, .slice (some ⟨w.heap.size, 0, none⟩) 2 2, .int .i64 0, .slice none 0 0] 100)).alloc (.cells #[.string ⟨#[120]⟩, .int .i64 2, .int .i64 0, .int .i64 1, .int .i64 0, .int .i64 0, .string ⟨#[120]⟩, .int .i64 3, .int .i64 0, .int .i64 0, .int .i64 4, .int .i64 2, .string ⟨#[121]⟩, .int .i64 1, .int .i64 0, .int .i64 0, .int .i64 0, .int .i64 0, .string ⟨#[121]⟩, .int .i64 1, .int .i64 0, .int .i64 2, .int .i64 0, .int .i64 0, .string ⟨#[120]⟩, .int .i64 3, .int .i64 0, .int .i64 0, .int .i64 3, .int .i64 8] 78)).alloc (.cells #[.slice (some ⟨w.heap.size + 1, 0, none⟩) 1 1, .slice (some ⟨w.heap.size + 1 + 1, 0, none⟩) 5 5] 44)) ∧ PtM.Own ((((w.alloc (.cells #[.int .u8 1, .int .u8 2] 5)).alloc (.cells #[.int .i64 4, .int .i64 1, .string ⟨#[]⟩, .slice (some ⟨w.heap.size, 0, none⟩) 2 2, .int .i64 0, .slice none 0 0] 100)).alloc (.cells #[.string ⟨#[120]⟩, .int .i64 2, .int .i64 0, .int .i64 1, .int .i64 0, .int .i64 0, .string ⟨#[120]⟩, .int .i64 3, .int .i64 0, .int .i64 0, .int .i64 4, .int .i64 2, .string ⟨#[121]⟩, .int .i64 1, .int .i64 0, .int .i64 0, .int .i64 0, .int .i64 0, .string ⟨#[121]⟩, .int .i64 1, .int .i64 0, .int .i64 2, .int .i64 0, .int .i64 0, .string ⟨#[120]⟩, .int .i64 3, .int .i64 0, .int .i64 0, .int .i64 3, .int .i64 8] 78)).alloc (.cells #[.slice (some ⟨w.heap.size + 1, 0, none⟩) 1 1, .slice (some ⟨w.heap.size + 1 + 1, 0, none⟩) 5 5] 44)) w.heap.size ⟨[⟨⟨4, 1, ⟨#[]⟩, [1, 2], 0, []⟩, some ⟨w.heap.size, 0, none⟩, 2, none, 0⟩], [⟨⟨#[120]⟩, 2, 0, 1, 0, 0⟩, ⟨⟨#[120]⟩, 3, 0, 0, 4, 2⟩, ⟨⟨#[121]⟩, 1, 0, 0, 0, 0⟩, ⟨⟨#[121]⟩, 1, 0, 2, 0, 0⟩, ⟨⟨#[120]⟩, 3, 0, 0, 3, 8⟩], some ⟨w.heap.size + 1, 0, none⟩, 1, some ⟨w.heap.size + 1 + 1, 0, none⟩, 5⟩ := by
  have h0 := (((Blk.new' w 5 #[.int .u8 1, .int .u8 2] (g := w.heap.size) rfl).alloc (.cells #[.int .i64 4, .int .i64 1, .string ⟨#[]⟩, .slice (some ⟨w.heap.size, 0, none⟩) 2 2, .int .i64 0, .slice none 0 0] 100)).alloc (.cells #[.string ⟨#[120]⟩, .int .i64 2, .int .i64 0, .int .i64 1, .int .i64 0, .int .i64 0, .string ⟨#[120]⟩, .int .i64 3, .int .i64 0, .int .i64 0, .int .i64 4, .int .i64 2, .string ⟨#[121]⟩, .int .i64 1, .int .i64 0, .int .i64 0, .int .i64 0, .int .i64 0, .string ⟨#[121]⟩, .int .i64 1, .int .i64 0, .int .i64 2, .int .i64 0, .int .i64 0, .string ⟨#[120]⟩, .int .i64 3, .int .i64 0, .int .i64 0, .int .i64 3, .int .i64 8] 78)).alloc (.cells #[.slice (some ⟨w.heap.size + 1, 0, none⟩) 1 1, .slice (some ⟨w.heap.size + 1 + 1, 0, none⟩) 5 5] 44)
  have h1 := ((Blk.new' (w.alloc (.cells #[.int .u8 1, .int .u8 2] 5)) 100 #[.int .i64 4, .int .i64 1, .string ⟨#[]⟩, .slice (some ⟨w.heap.size, 0, none⟩) 2 2, .int .i64 0, .slice none 0 0] (g := w.heap.size + 1) (by simp)).alloc (.cells #[.string ⟨#[120]⟩, .int .i64 2, .int .i64 0, .int .i64 1, .int .i64 0, .int .i64 0, .string ⟨#[120]⟩, .int .i64 3, .int .i64 0, .int .i64 0, .int .i64 4, .int .i64 2, .string ⟨#[121]⟩, .int .i64 1, .int .i64 0, .int .i64 0, .int .i64 0, .int .i64 0, .string ⟨#[121]⟩, .int .i64 1, .int .i64 0, .int .i64 2, .int .i64 0, .int .i64 0, .string ⟨#[120]⟩, .int .i64 3, .int .i64 0, .int .i64 0, .int .i64 3, .int .i64 8] 78)).alloc (.cells #[.slice (some ⟨w.heap.size + 1, 0, none⟩) 1 1, .slice (some ⟨w.heap.size + 1 + 1, 0, none⟩) 5 5] 44)
  have h2 := (Blk.new' ((w.alloc (.cells #[.int .u8 1, .int .u8 2] 5)).alloc (.cells #[.int .i64 4, .int .i64 1, .string ⟨#[]⟩, .slice (some ⟨w.heap.size, 0, none⟩) 2 2, .int .i64 0, .slice none 0 0] 100)) 78 #[.string ⟨#[120]⟩, .int .i64 2, .int .i64 0, .int .i64 1, .int .i64 0, .int .i64 0, .string ⟨#[120]⟩, .int .i64 3, .int .i64 0, .int .i64 0, .int .i64 4, .int .i64 2, .string ⟨#[121]⟩, .int .i64 1, .int .i64 0, .int .i64 0, .int .i64 0, .int .i64 0, .string ⟨#[121]⟩, .int .i64 1, .int .i64 0, .int .i64 2, .int .i64 0, .int .i64 0, .string ⟨#[120]⟩, .int .i64 3, .int .i64 0, .int .i64 0, .int .i64 3, .int .i64 8] (g := w.heap.size + 1 + 1) (by simp)).alloc (.cells #[.slice (some ⟨w.heap.size + 1, 0, none⟩) 1 1, .slice (some ⟨w.heap.size + 1 + 1, 0, none⟩) 5 5] 44)
  have h3 := Blk.new' (((w.alloc (.cells #[.int .u8 1, .int .u8 2] 5)).alloc (.cells #[.int .i64 4, .int .i64 1, .string ⟨#[]⟩, .slice (some ⟨w.heap.size, 0, none⟩) 2 2, .int .i64 0, .slice none 0 0] 100)).alloc (.cells #[.string ⟨#[120]⟩, .int .i64 2, .int .i64 0, .int .i64 1, .int .i64 0, .int .i64 0, .string ⟨#[120]⟩, .int .i64 3, .int .i64 0, .int .i64 0, .int .i64 4, .int .i64 2, .string ⟨#[121]⟩, .int .i64 1, .int .i64 0, .int .i64 0, .int .i64 0, .int .i64 0, .string ⟨#[121]⟩, .int .i64 1, .int .i64 0, .int .i64 2, .int .i64 0, .int .i64 0, .string ⟨#[120]⟩, .int .i64 3, .int .i64 0, .int .i64 0, .int .i64 3, .int .i64 8] 78)) 44 #[.slice (some ⟨w.heap.size + 1, 0, none⟩) 1 1, .slice (some ⟨w.heap.size + 1 + 1, 0, none⟩) 5 5] (g := w.heap.size + 3) (by simp)
  have hb : Below w.heap.size w ((((w.alloc (.cells #[.int .u8 1, .int .u8 2] 5)).alloc (.cells #[.int .i64 4, .int .i64 1, .string ⟨#[]⟩, .slice (some ⟨w.heap.size, 0, none⟩) 2 2, .int .i64 0, .slice none 0 0] 100)).alloc (.cells #[.string ⟨#[120]⟩, .int .i64 2, .int .i64 0, .int .i64 1, .int .i64 0, .int .i64 0, .string ⟨#[120]⟩, .int .i64 3, .int .i64 0, .int .i64 0, .int .i64 4, .int .i64 2, .string ⟨#[121]⟩, .int .i64 1, .int .i64 0, .int .i64 0, .int .i64 0, .int .i64 0, .string ⟨#[121]⟩, .int .i64 1, .int .i64 0, .int .i64 2, .int .i64 0, .int .i64 0, .string ⟨#[120]⟩, .int .i64 3, .int .i64 0, .int .i64 0, .int .i64 3, .int .i64 8] 78)).alloc (.cells #[.slice (some ⟨w.heap.size + 1, 0, none⟩) 1 1, .slice (some ⟨w.heap.size + 1 + 1, 0, none⟩) 5 5] 44)) := by (repeat' (first | exact Below.refl _ _ | assumption | refine Below.setCell ?_ (by first | omega | exact Below.size (by assumption) | (simp; done) | (simp; omega)) _ | refine Below.alloc ?_ (by first | omega | exact Below.size (by assumption) | (simp; done) | (simp; omega)) _ | refine Below.drew ?_ | refine below_drewN ?_ _))
  have hbf := own_of_blk h0 (base := w.heap.size) (size := 1) (n := 2) (by omega) rfl (by omega)
  have hff := own_of_blk h1 (base := w.heap.size) (size := 6) (n := 1) (by omega) rfl (by omega)
  have hdf := own_of_blk h2 (base := w.heap.size) (size := 6) (n := 5) (by omega) rfl (by omega)
  refine ⟨h3, hb, hff, hdf, fun x hx => ?_, List.pairwise_singleton _ _⟩
  obtain rfl : x = _ := by simpa using hx
  exact ⟨hbf, World.ownsRow_nil _ _ _ _⟩

end Go.Proofs.Ytbhjdinjoonngaa

/- ropewalklaw.linked: its numbers. No program in sight. -/
namespace Go.Proofs.Ytbhjdinjoonngaa
open Go.RowKit

def twoL : Prt := ⟨[⟨1, 1, ⟨#[]⟩, [9, 0, 0], 0, [⟨1, 2, ⟨#[102]⟩, 0, 0⟩]⟩, ⟨1, 4, ⟨#[103]⟩, [7], 0, []⟩], [⟨⟨#[109, 97, 105, 110]⟩, 1, 0, 0, 0, 0⟩, ⟨⟨#[102]⟩, 1, 1, 0, 0, 0⟩]⟩
theorem lk_join : joinP twoA twoB = (twoL, 0) := by kernel_rfl
theorem lk_le : ([102] : List UInt8) ≤ [109, 97, 105, 110] := by decide
theorem lk_nle : ¬ ([109, 97, 105, 110] : List UInt8) ≤ [102] := by decide
theorem lk_s1 : ([[109, 97, 105, 110], [102]] : List (List UInt8)).mergeSort (fun x y => decide (x ≤ y)) = [[102], [109, 97, 105, 110]] := by
  simp [List.mergeSort, List.MergeSort.Internal.splitInTwo, List.merge, lk_nle]
theorem lk_s2 : ([[102], [102], [109, 97, 105, 110]] : List (List UInt8)).mergeSort (fun x y => decide (x ≤ y)) = [[102], [102], [109, 97, 105, 110]] := by
  have h1 := lk_le
  have h2 : ([102] : List UInt8) ≤ [102] := by decide
  simp [List.mergeSort, List.MergeSort.Internal.splitInTwo, List.merge, h1, h2]
theorem lk_s3 : ([[102], [109, 97, 105, 110]] : List (List UInt8)).mergeSort (fun x y => decide (x ≤ y)) = [[102], [109, 97, 105, 110]] := by
  have h1 := lk_le
  simp [List.mergeSort, List.MergeSort.Internal.splitInTwo, List.merge, h1]
theorem lk_d : definedP twoL = [⟨#[102]⟩, ⟨#[109, 97, 105, 110]⟩] := (setS_eq (l := twoL.dfs.map Df.name) lk_s1).trans (by kernel_rfl)
theorem lk_w : wantedP twoL = [⟨#[102]⟩] := (setS_eq (l := twoL.frs.flatMap wantedF) (k := [[102]]) (by rw [show (twoL.frs.flatMap wantedF).map keyOf = [[102]] by kernel_rfl]; simp [List.mergeSort])).trans (by kernel_rfl)
theorem lk_f : faultsP twoL = [] := by
  unfold faultsP
  have e : setS ([(⟨#[102]⟩ : ByteArray)] ++ [⟨#[102]⟩, ⟨#[109, 97, 105, 110]⟩]) = [⟨#[102]⟩, ⟨#[109, 97, 105, 110]⟩] := (setS_eq (l := [(⟨#[102]⟩ : ByteArray), ⟨#[102]⟩, ⟨#[109, 97, 105, 110]⟩]) lk_s2).trans (by kernel_rfl)
  rw [lk_d, lk_w]
  exact (congrArg (List.filterMap (fltOf twoL.dfs)) e).trans (by kernel_rfl)
theorem la_d : definedP twoA = [⟨#[109, 97, 105, 110]⟩] := (setS_eq (l := twoA.dfs.map Df.name) (k := [[109, 97, 105, 110]]) (by simp [twoA, keyOf, List.mergeSort])).trans (by kernel_rfl)
theorem la_w : wantedP twoA = [⟨#[102]⟩] := (setS_eq (l := twoA.frs.flatMap wantedF) (k := [[102]]) (by rw [show (twoA.frs.flatMap wantedF).map keyOf = [[102]] by kernel_rfl]; simp [List.mergeSort])).trans (by kernel_rfl)
theorem la_f : faultsP twoA = [⟨7, ⟨#[102]⟩⟩] := by
  unfold faultsP
  have e : setS ([(⟨#[102]⟩ : ByteArray)] ++ [⟨#[109, 97, 105, 110]⟩]) = [⟨#[102]⟩, ⟨#[109, 97, 105, 110]⟩] := (setS_eq (l := [(⟨#[102]⟩ : ByteArray), ⟨#[109, 97, 105, 110]⟩]) lk_s3).trans (by kernel_rfl)
  rw [la_d, la_w]
  exact (congrArg (List.filterMap (fltOf twoA.dfs)) e).trans (by kernel_rfl)
theorem lk_e : linkE twoL 32 ⟨#[109, 97, 105, 110]⟩ = 0 := by
  unfold linkE layE layEnd
  rw [show (32 : Int).toNat = 32 from rfl, lk_d]
  kernel_rfl
theorem la_e : linkE twoA 32 ⟨#[109, 97, 105, 110]⟩ = 0 := by
  unfold linkE layE layEnd
  rw [show (32 : Int).toNat = 32 from rfl, la_d]
  kernel_rfl
theorem lk_where : whereA twoL 32 ⟨#[109, 97, 105, 110]⟩ = (32, 0) := by kernel_rfl
theorem la_where : whereA twoA 32 ⟨#[109, 97, 105, 110]⟩ = (32, 0) := by kernel_rfl
theorem lk_told : linkFl twoL 32 ⟨#[109, 97, 105, 110]⟩ = [] := by
  unfold linkFl linkFl0
  rw [lk_f, lk_where]
  kernel_rfl
theorem la_told : linkFl twoA 32 ⟨#[109, 97, 105, 110]⟩ = [⟨7, ⟨#[102]⟩, 0, 0⟩] := by
  unfold linkFl linkFl0
  rw [la_f, la_where]
  kernel_rfl
theorem lk_bytes : (segP twoL 32 1 1 [1]).bs = [9, 36, 0, 0, 7] := by kernel_rfl
theorem lk_p : linkP twoL 32 ⟨#[109, 97, 105, 110]⟩ = (⟨32, [segP twoL 32 1 1 [1], segP twoL 32 2 3 [2, 3], segP twoL 32 4 5 [4, 5]]⟩, [], 0) := by
  unfold linkP
  rw [if_neg (by simp [lk_e]), show (32 : Int).toNat = 32 from rfl, if_neg (by simp [lk_told]), lk_where]
theorem la_p : linkP twoA 32 ⟨#[109, 97, 105, 110]⟩ = (⟨0, []⟩, [⟨7, ⟨#[102]⟩, 0, 0⟩], 0) := by
  unfold linkP
  rw [if_neg (by simp [la_e]), show (32 : Int).toNat = 32 from rfl, la_told, if_pos (by simp)]
end Go.Proofs.Ytbhjdinjoonngaa

/- link.Same: what it computes. -/
namespace Go.Proofs.Ytbhjdinjoonngaa
open Go.RowKit

def sgEq (x y : Seg) : Bool := decide (x.At = y.At) && (x.Bytes == y.Bytes) && decide (x.Zeros = y.Zeros) && (x.Writes == y.Writes) && (x.Works == y.Works)
def sgsEq (l l' : List Seg) : Bool := decide (l.length = l'.length) && (l.zip l').all fun p => sgEq p.1 p.2
theorem sgsEq_len {l l' : List Seg} (h : l.length ≠ l'.length) : sgsEq l l' = false := by unfold sgsEq; rw [decide_eq_false h]; rfl
theorem sgsEq_no {l l' : List Seg} {k : Nat} {x y : Seg} (hx : l[k]? = some x) (hy : l'[k]? = some y) (h : sgEq x y = false) : sgsEq l l' = false := by
  unfold sgsEq
  have : (l.zip l').all (fun p => sgEq p.1 p.2) = false := by
    rw [List.all_eq_false]
    refine ⟨(x, y), List.mem_of_getElem? (i := k) ?_, by simp [h]⟩
    rw [List.getElem?_zip_eq_some]
    exact ⟨hx, hy⟩
  rw [this, Bool.and_false]
theorem sgsEq_yes {l l' : List Seg} (hl : l.length = l'.length) (h : ((l.zip l').take l.length).all (fun p => sgEq p.1 p.2) = true) : sgsEq l l' = true := by
  unfold sgsEq
  rw [List.take_of_length_le (by rw [List.length_zip]; omega)] at h
  rw [decide_eq_true hl, h]
  rfl
theorem sgEq_er {x y : Seg} (h : x.er = y.er) : sgEq x y = true := by
  unfold Seg.er at h
  injection h with h1 h2 h3 h4 h5
  unfold sgEq
  rw [h1, h2, h3, h4, h5]
  simp
theorem sgsEq_er {l l' : List Seg} (h : l.map Seg.er = l'.map Seg.er) : sgsEq l l' = true := by
  have hl : l.length = l'.length := by have := congrArg List.length h; simpa using this
  unfold sgsEq
  rw [decide_eq_true hl, Bool.true_and, List.all_eq_true]
  rintro ⟨x, y⟩ hp
  obtain ⟨k, hk⟩ := List.mem_iff_getElem?.1 hp
  rw [List.getElem?_zip_eq_some] at hk
  have := congrArg (fun l => l[k]?) h
  simp only [List.getElem?_map, hk.1, hk.2, Option.map_some, Option.some.injEq] at this
  exact sgEq_er this
theorem sg_get {w : World} {B : Nat} {A : Option Addr} {l : List Seg} (h : Reads w B 5 A l.length (l.flatMap Seg.cells)) {i : Nat} {x : Seg} (hx : l[i]? = some x) :
    ∃ b off, A = some ⟨b, off, none⟩ ∧ b < B ∧ w.cell? ⟨b, off + i * 5, none⟩ = some (.int .i64 x.At) ∧ w.cell? ⟨b, off + i * 5 + 1, none⟩ = some (.slice x.ba x.Bytes.length x.bc) ∧ w.cell? ⟨b, off + i * 5 + 2, none⟩ = some (.int .i64 x.Zeros) ∧ w.cell? ⟨b, off + i * 5 + 3, none⟩ = some (.bool x.Writes) ∧ w.cell? ⟨b, off + i * 5 + 4, none⟩ = some (.bool x.Works) := by
  obtain ⟨b, off, e, hb, hc⟩ := cells_get (cells := Seg.cells) (fun _ => rfl) h hx
  exact ⟨b, off, e, hb, hc 0 _ rfl, hc 1 _ rfl, hc 2 _ rfl, hc 3 _ rfl, hc 4 _ rfl⟩

set_option maxHeartbeats 8000000 in
set_option maxRecDepth 100000 in
theorem linkSame1_any (x y : Seg) (w : World) (xb : Reads w w.heap.size 1 x.ba x.Bytes.length (bytesV x.Bytes)) (yb : Reads w w.heap.size 1 y.ba y.Bytes.length (bytesV y.Bytes)) (xm : x.Bytes.length ≤ 9223372036854775807) :
    Calls Try.prog 113 #[.agg #[.int .i64 (x).At, .slice (x).ba (x).Bytes.length (x).bc, .int .i64 (x).Zeros, .bool (x).Writes, .bool (x).Works], .agg #[.int .i64 (y).At, .slice (y).ba (y).Bytes.length (y).bc, .int .i64 (y).Zeros, .bool (y).Writes, .bool (y).Works]] w fun e w' => e = .returned (.bool (sgEq x y)) ∧ Below w.heap.size w w' := by
  have HB : Hid (∀ W, Below w.heap.size w W → Calls Try.prog 72 #[.slice x.ba x.Bytes.length x.bc, .slice y.ba y.Bytes.length y.bc] W fun e w' => e = .returned (.bool (x.Bytes == y.Bytes)) ∧ Below W.heap.size W w') :=
    fun W hW => equalBytes_any x.ba y.ba x.bc y.bc x.Bytes y.Bytes W ((xb.below hW).more hW.size) ((yb.below hW).more hW.size) xm
  have hX := Blk.new' w 106 #[.int .i64 (x).At, .slice (x).ba (x).Bytes.length (x).bc, .int .i64 (x).Zeros, .bool (x).Writes, .bool (x).Works] rfl
  have hY := Blk.new' (w.alloc (.cells #[.int .i64 (x).At, .slice (x).ba (x).Bytes.length (x).bc, .int .i64 (x).Zeros, .bool (x).Writes, .bool (x).Works] 106)) 106 #[.int .i64 (y).At, .slice (y).ba (y).Bytes.length (y).bc, .int .i64 (y).Zeros, .bool (y).Writes, .bool (y).Works] (show w.heap.size + 1 = _ by simp)
  have HE : Hid (sgEq x y = (decide (x.At = y.At) && (x.Bytes == y.Bytes) && decide (x.Zeros = y.Zeros) && (x.Writes == y.Writes) && (x.Works == y.Works))) := rfl
  clear xb yb
  by_cases h1 : x.At = y.At
  · have t1 : (x.At == y.At) = true := beq_iff_eq.2 h1
    rcases h2 : (x.Bytes == y.Bytes) with _ | _
    · have H : Hid (sgEq x y = false) := by show _ = _; rw [HE.out, h2]; simp
      rw [h2] at HB
      clear h1 h2
      (go_enter Try.func113, Try.ntmps113; go_wp2_with (go_at_call 72; refine (HB.out _ (by (repeat' (first | exact Below.refl _ _ | assumption | refine Below.setCell ?_ (by first | omega | exact Below.size (by assumption) | (simp; done) | (simp; omega)) _ | refine Below.alloc ?_ (by first | omega | exact Below.size (by assumption) | (simp; done) | (simp; omega)) _ | refine Below.drew ?_ | refine below_drewN ?_ _)))).mono ?_; rintro e w1 ⟨rfl, hb1⟩; obtain ⟨hcc, hff⟩ := bcell hb1; have x2 := ((hX.alloc _).all hb1).cell 2; have x3 := ((hX.alloc _).all hb1).cell 3; have x4 := ((hX.alloc _).all hb1).cell 4; have y2 := (hY.all hb1).cell 2; have y3 := (hY.all hb1).cell 3; have y4 := (hY.all hb1).cell 4); go_ret; exact ⟨ret_val (by rw [H.out]; rfl), Below.trans (by (repeat' (first | exact Below.refl _ _ | assumption | refine Below.setCell ?_ (by first | omega | exact Below.size (by assumption) | (simp; done) | (simp; omega)) _ | refine Below.alloc ?_ (by first | omega | exact Below.size (by assumption) | (simp; done) | (simp; omega)) _ | refine Below.drew ?_ | refine below_drewN ?_ _))) (hb1.mono (by simp; omega))⟩)
    · rw [h2] at HB
      by_cases h3 : x.Zeros = y.Zeros
      · have t3 : (x.Zeros == y.Zeros) = true := beq_iff_eq.2 h3
        rcases h4 : (x.Writes == y.Writes) with _ | _
        · have H : Hid (sgEq x y = false) := by show _ = _; rw [HE.out, h4]; simp
          clear h1 h2 h3
          (go_enter Try.func113, Try.ntmps113; go_wp2_with (go_at_call 72; refine (HB.out _ (by (repeat' (first | exact Below.refl _ _ | assumption | refine Below.setCell ?_ (by first | omega | exact Below.size (by assumption) | (simp; done) | (simp; omega)) _ | refine Below.alloc ?_ (by first | omega | exact Below.size (by assumption) | (simp; done) | (simp; omega)) _ | refine Below.drew ?_ | refine below_drewN ?_ _)))).mono ?_; rintro e w1 ⟨rfl, hb1⟩; obtain ⟨hcc, hff⟩ := bcell hb1; have x2 := ((hX.alloc _).all hb1).cell 2; have x3 := ((hX.alloc _).all hb1).cell 3; have x4 := ((hX.alloc _).all hb1).cell 4; have y2 := (hY.all hb1).cell 2; have y3 := (hY.all hb1).cell 3; have y4 := (hY.all hb1).cell 4); go_ret; exact ⟨ret_val (by rw [H.out]; rfl), Below.trans (by (repeat' (first | exact Below.refl _ _ | assumption | refine Below.setCell ?_ (by first | omega | exact Below.size (by assumption) | (simp; done) | (simp; omega)) _ | refine Below.alloc ?_ (by first | omega | exact Below.size (by assumption) | (simp; done) | (simp; omega)) _ | refine Below.drew ?_ | refine below_drewN ?_ _))) (hb1.mono (by simp; omega))⟩)
        · rcases h5 : (x.Works == y.Works) with _ | _
          · have H : Hid (sgEq x y = false) := by show _ = _; rw [HE.out, h5]; simp
            clear h1 h2 h3
            (go_enter Try.func113, Try.ntmps113; go_wp2_with (go_at_call 72; refine (HB.out _ (by (repeat' (first | exact Below.refl _ _ | assumption | refine Below.setCell ?_ (by first | omega | exact Below.size (by assumption) | (simp; done) | (simp; omega)) _ | refine Below.alloc ?_ (by first | omega | exact Below.size (by assumption) | (simp; done) | (simp; omega)) _ | refine Below.drew ?_ | refine below_drewN ?_ _)))).mono ?_; rintro e w1 ⟨rfl, hb1⟩; obtain ⟨hcc, hff⟩ := bcell hb1; have x2 := ((hX.alloc _).all hb1).cell 2; have x3 := ((hX.alloc _).all hb1).cell 3; have x4 := ((hX.alloc _).all hb1).cell 4; have y2 := (hY.all hb1).cell 2; have y3 := (hY.all hb1).cell 3; have y4 := (hY.all hb1).cell 4); go_ret; exact ⟨ret_val (by rw [H.out]; rfl), Below.trans (by (repeat' (first | exact Below.refl _ _ | assumption | refine Below.setCell ?_ (by first | omega | exact Below.size (by assumption) | (simp; done) | (simp; omega)) _ | refine Below.alloc ?_ (by first | omega | exact Below.size (by assumption) | (simp; done) | (simp; omega)) _ | refine Below.drew ?_ | refine below_drewN ?_ _))) (hb1.mono (by simp; omega))⟩)
          · have H : Hid (sgEq x y = true) := by show _ = _; rw [HE.out, h2, h4, h5, decide_eq_true h1, decide_eq_true h3]; rfl
            clear h1 h2 h3
            (go_enter Try.func113, Try.ntmps113; go_wp2_with (go_at_call 72; refine (HB.out _ (by (repeat' (first | exact Below.refl _ _ | assumption | refine Below.setCell ?_ (by first | omega | exact Below.size (by assumption) | (simp; done) | (simp; omega)) _ | refine Below.alloc ?_ (by first | omega | exact Below.size (by assumption) | (simp; done) | (simp; omega)) _ | refine Below.drew ?_ | refine below_drewN ?_ _)))).mono ?_; rintro e w1 ⟨rfl, hb1⟩; obtain ⟨hcc, hff⟩ := bcell hb1; have x2 := ((hX.alloc _).all hb1).cell 2; have x3 := ((hX.alloc _).all hb1).cell 3; have x4 := ((hX.alloc _).all hb1).cell 4; have y2 := (hY.all hb1).cell 2; have y3 := (hY.all hb1).cell 3; have y4 := (hY.all hb1).cell 4); go_ret; exact ⟨ret_val (by rw [H.out]; rfl), Below.trans (by (repeat' (first | exact Below.refl _ _ | assumption | refine Below.setCell ?_ (by first | omega | exact Below.size (by assumption) | (simp; done) | (simp; omega)) _ | refine Below.alloc ?_ (by first | omega | exact Below.size (by assumption) | (simp; done) | (simp; omega)) _ | refine Below.drew ?_ | refine below_drewN ?_ _))) (hb1.mono (by simp; omega))⟩)
      · have t3 : (x.Zeros == y.Zeros) = false := beq_eq_false_iff_ne.2 h3
        have H : Hid (sgEq x y = false) := by show _ = _; rw [HE.out, decide_eq_false h3]; simp
        clear h1 h2 h3
        (go_enter Try.func113, Try.ntmps113; go_wp2_with (go_at_call 72; refine (HB.out _ (by (repeat' (first | exact Below.refl _ _ | assumption | refine Below.setCell ?_ (by first | omega | exact Below.size (by assumption) | (simp; done) | (simp; omega)) _ | refine Below.alloc ?_ (by first | omega | exact Below.size (by assumption) | (simp; done) | (simp; omega)) _ | refine Below.drew ?_ | refine below_drewN ?_ _)))).mono ?_; rintro e w1 ⟨rfl, hb1⟩; obtain ⟨hcc, hff⟩ := bcell hb1; have x2 := ((hX.alloc _).all hb1).cell 2; have x3 := ((hX.alloc _).all hb1).cell 3; have x4 := ((hX.alloc _).all hb1).cell 4; have y2 := (hY.all hb1).cell 2; have y3 := (hY.all hb1).cell 3; have y4 := (hY.all hb1).cell 4); go_ret; exact ⟨ret_val (by rw [H.out]; rfl), Below.trans (by (repeat' (first | exact Below.refl _ _ | assumption | refine Below.setCell ?_ (by first | omega | exact Below.size (by assumption) | (simp; done) | (simp; omega)) _ | refine Below.alloc ?_ (by first | omega | exact Below.size (by assumption) | (simp; done) | (simp; omega)) _ | refine Below.drew ?_ | refine below_drewN ?_ _))) (hb1.mono (by simp; omega))⟩)
  · have t1 : (x.At == y.At) = false := beq_eq_false_iff_ne.2 h1
    have H : Hid (sgEq x y = false) := by show _ = _; rw [HE.out, decide_eq_false h1]; simp
    clear h1
    (go_enter Try.func113, Try.ntmps113; go_wp2_with (go_at_call 72; refine (HB.out _ (by (repeat' (first | exact Below.refl _ _ | assumption | refine Below.setCell ?_ (by first | omega | exact Below.size (by assumption) | (simp; done) | (simp; omega)) _ | refine Below.alloc ?_ (by first | omega | exact Below.size (by assumption) | (simp; done) | (simp; omega)) _ | refine Below.drew ?_ | refine below_drewN ?_ _)))).mono ?_; rintro e w1 ⟨rfl, hb1⟩; obtain ⟨hcc, hff⟩ := bcell hb1; have x2 := ((hX.alloc _).all hb1).cell 2; have x3 := ((hX.alloc _).all hb1).cell 3; have x4 := ((hX.alloc _).all hb1).cell 4; have y2 := (hY.all hb1).cell 2; have y3 := (hY.all hb1).cell 3; have y4 := (hY.all hb1).cell 4); go_ret; exact ⟨ret_val (by rw [H.out]; rfl), by (repeat' (first | exact Below.refl _ _ | assumption | refine Below.setCell ?_ (by first | omega | exact Below.size (by assumption) | (simp; done) | (simp; omega)) _ | refine Below.alloc ?_ (by first | omega | exact Below.size (by assumption) | (simp; done) | (simp; omega)) _ | refine Below.drew ?_ | refine below_drewN ?_ _))⟩)

set_option maxHeartbeats 8000000 in
set_option maxRecDepth 100000 in
theorem equalSegs_any (A A' : Option Addr) (c c' : Nat) (l l' : List Seg) (w : World) (h : SegsAt w w.heap.size A l) (h' : SegsAt w w.heap.size A' l') :
    Calls Try.prog 112 #[.slice A l.length c, .slice A' l'.length c', .func (.func 113) #[] #[]] w
      fun e w' => e = .returned (.bool (sgsEq l l')) ∧ Below w.heap.size w w' := by
  have hm := h.small
  have G1 := Lib.hid h.each
  have G2 := Lib.hid h'.each
  have M1 := Lib.hid h.smalls
  replace h := h.row
  replace h' := h'.row
  by_cases hlen : l.length = l'.length
  · have hne : ((l.length : Int) != (l'.length : Int)) = false := by rw [hlen]; simp
    have HL := Lib.hid hlen
    have l0 : l.length ≤ l'.length := by omega
    clear hlen
    go_enter Try.func112, Try.ntmps112
    go_wp2
    go_loopw [17] (fun i wr => ∃ k : Nat, k ≤ l.length ∧ i = .int .i64 k ∧ Hid (((l.zip l').take k).all (fun p => sgEq p.1 p.2) = true) ∧ Below w.heap.size w wr) (fun i _ => l.length - (intOf i).toNat)
    case atStart => exact ⟨0, Nat.zero_le _, rfl, Lib.hid (by simp), Below.refl _ _⟩
    case round =>
      obtain ⟨k, hk, rfl, htk, hb⟩ := hrel
      by_cases hlt : k < l.length
      · have hlt' : k < l'.length := by omega
        obtain ⟨x, hx⟩ : ∃ x, l[k]? = some x := ⟨_, List.getElem?_eq_getElem hlt⟩
        obtain ⟨y, hy⟩ : ∃ y, l'[k]? = some y := ⟨_, List.getElem?_eq_getElem hlt'⟩
        have hX := (G1.out x (List.mem_of_getElem? hx)).below hb
        have hY := (G2.out y (List.mem_of_getElem? hy)).below hb
        have hxm := M1.out x (List.mem_of_getElem? hx)
        obtain ⟨b, off, rfl, bl, c0, c1, c2, c3, c4⟩ := sg_get (h.below hb) hx
        obtain ⟨b', off', rfl, bl', d0, d1, d2, d3, d4⟩ := sg_get ((h'.below hb).alloc hb.size (.cells #[.int .i64 (x).At, .slice (x).ba (x).Bytes.length (x).bc, .int .i64 (x).Zeros, .bool (x).Writes, .bool (x).Works] 106)) hy
        have bz := hb.size
        have z1 : b ≠ wr.heap.size := by omega
        have z2 : b' ≠ wr.heap.size := by omega
        have HX := Lib.hid hx
        have HY := Lib.hid hy
        have HT : Hid (sgEq x y = true → ((l.zip l').take (k + 1)).all (fun p => sgEq p.1 p.2) = true) := fun e => by
          have hz : (l.zip l')[k]? = some (x, y) := by rw [List.getElem?_zip_eq_some]; exact ⟨hx, hy⟩
          rw [List.take_add_one, hz, List.all_append, htk.out]
          simp [e]
        clear hx hy
        go_wp2_with fail
        refine (linkSame1_any x y _ ?_ ?_ hxm).mono ?_
        · exact (hX.below (w' := _) (by (repeat' (first | exact Below.refl _ _ | assumption | refine Below.setCell ?_ (by first | omega | exact Below.size (by assumption) | (simp; done) | (simp; omega)) _ | refine Below.alloc ?_ (by first | omega | exact Below.size (by assumption) | (simp; done) | (simp; omega)) _ | refine Below.drew ?_ | refine below_drewN ?_ _)))).more (by simp; omega)
        · exact (hY.below (w' := _) (by (repeat' (first | exact Below.refl _ _ | assumption | refine Below.setCell ?_ (by first | omega | exact Below.size (by assumption) | (simp; done) | (simp; omega)) _ | refine Below.alloc ?_ (by first | omega | exact Below.size (by assumption) | (simp; done) | (simp; omega)) _ | refine Below.drew ?_ | refine below_drewN ?_ _)))).more (by simp; omega)
        rintro e w1 ⟨rfl, hb1⟩
        have hB : Below w.heap.size w w1 := Below.trans (by (repeat' (first | exact Below.refl _ _ | assumption | refine Below.setCell ?_ (by first | omega | exact Below.size (by assumption) | (simp; done) | (simp; omega)) _ | refine Below.alloc ?_ (by first | omega | exact Below.size (by assumption) | (simp; done) | (simp; omega)) _ | refine Below.drew ?_ | refine below_drewN ?_ _))) (hb1.mono (by have := hb.size; simp; omega))
        clear hb1 c0 c1 c2 c3 c4 d0 d1 d2 d3 d4
        rcases hd : sgEq x y with _ | _
        · have HN := Lib.hid (sgsEq_no HX.out HY.out hd)
          clear hd
          go_wp2
          go_ret
          exact ⟨ret_val (by rw [HN.out]; rfl), hB⟩
        · have hd' := HT.out hd
          replace hd' := Lib.hid hd'
          clear hd
          go_wp2
          go_roundw
          case rel => exact ⟨k + 1, by omega, by go_num, hd', hB⟩
          case measure => simp [intOf]; omega
      · have hk' : k = l.length := by omega
        have HT : Hid (sgsEq l l' = true) := by
          have := htk.out
          rw [hk'] at this
          exact sgsEq_yes HL.out this
        go_wp2
        go_ret
        exact ⟨ret_val (by rw [HT.out]; rfl), by (repeat' (first | exact Below.refl _ _ | assumption | refine Below.setCell ?_ (by first | omega | exact Below.size (by assumption) | (simp; done) | (simp; omega)) _ | refine Below.alloc ?_ (by first | omega | exact Below.size (by assumption) | (simp; done) | (simp; omega)) _ | refine Below.drew ?_ | refine below_drewN ?_ _))⟩
  · have hne : ((l.length : Int) != (l'.length : Int)) = true := by simp; omega
    have HL := Lib.hid (sgsEq_len hlen)
    clear hlen
    go_enter Try.func112, Try.ntmps112
    go_wp2
    go_ret
    exact ⟨ret_val (by rw [HL.out]; rfl), Below.refl _ _⟩

set_option maxHeartbeats 8000000 in
theorem linkSame_any (e1 e2 : Int) (A A' : Option Addr) (c c' : Nat) (l l' : List Seg) (w : World) (h : SegsAt w w.heap.size A l) (h' : SegsAt w w.heap.size A' l') :
    Calls Try.prog 62 #[.agg #[.int .i64 e1, .slice A l.length c], .agg #[.int .i64 e2, .slice A' l'.length c']] w fun e w' => e = .returned (.bool (decide (e1 = e2) && sgsEq l l')) ∧ Below w.heap.size w w' := by
  have hX := (Blk.new' w 87 #[.int .i64 e1, .slice A l.length c] rfl).alloc (.cells #[.int .i64 e2, .slice A' l'.length c'] 87)
  have hY := Blk.new' (w.alloc (.cells #[.int .i64 e1, .slice A l.length c] 87)) 87 #[.int .i64 e2, .slice A' l'.length c'] (show w.heap.size + 1 = _ by simp)
  have hb0 : Below w.heap.size w ((w.alloc (.cells #[.int .i64 e1, .slice A l.length c] 87)).alloc (.cells #[.int .i64 e2, .slice A' l'.length c'] 87)) := by (repeat' (first | exact Below.refl _ _ | assumption | refine Below.setCell ?_ (by first | omega | exact Below.size (by assumption) | (simp; done) | (simp; omega)) _ | refine Below.alloc ?_ (by first | omega | exact Below.size (by assumption) | (simp; done) | (simp; omega)) _ | refine Below.drew ?_ | refine below_drewN ?_ _))
  have HQ := Lib.hid (equalSegs_any A A' c c' l l' _ (h.below hb0) (h'.below hb0))
  clear h h'
  by_cases he : e1 = e2
  · have t1 : (e1 == e2) = true := beq_iff_eq.2 he
    have HD : Hid (decide (e1 = e2) = true) := decide_eq_true he
    clear he
    go_enter Try.func62, Try.ntmps62
    go_wp2_with fail
    refine HQ.out.mono ?_
    rintro e w1 ⟨rfl, hb1⟩
    go_wp2
    go_ret
    exact ⟨ret_val (by rw [HD.out, Bool.true_and]; rfl), hb0.trans (hb1.mono hb0.size)⟩
  · have t1 : (e1 == e2) = false := beq_eq_false_iff_ne.2 he
    have HD : Hid (decide (e1 = e2) = false) := decide_eq_false he
    clear he
    go_enter Try.func62, Try.ntmps62
    go_wp2_with fail
    go_ret
    exact ⟨ret_val (by rw [HD.out, Bool.false_and]; rfl), hb0⟩

instance decFlx : DecidableEq Flx := fun a b => decidable_of_iff (a.e = b.e ∧ a.name = b.name ∧ a.frag = b.frag ∧ a.at_ = b.at_) (by cases a; cases b; simp)
theorem flx_neq (x y : Flx) (w : World) : (binOp .neq 114 (.agg #[.int .i64 x.e, .string x.name, .int .i64 x.frag, .int .i64 x.at_]) (.agg #[.int .i64 y.e, .string y.name, .int .i64 y.frag, .int .i64 y.at_])).run Try.prog w = .ok (.bool (x != y)) w := by
  rw [run_neq_struct, run_equalIn_struct w 9999 _ _ _ fltUnder fltStood]
  have hf := fltFields
  rcases hl : (Try.prog.fieldsOf 114).toList with _ | ⟨f0, _ | ⟨f1, _ | ⟨f2, _ | ⟨f3, _ | ⟨f4, r⟩⟩⟩⟩⟩ <;> rw [hl] at hf <;> simp at hf
  obtain ⟨⟨n0, t0, o0⟩, ⟨n1, t1, o1⟩, ⟨n2, t2, o2⟩, ⟨n3, t3, o3⟩⟩ := hf
  simp only [Op.eqFields, t0, o0, t1, o1, t2, o2, t3, o3, n0, n1, n2, n3, ne_eq, not_false_eq_true, if_true, Sem.run_bind, fltPart0, fltPart1, fltPart2, fltPart3, Result.andThen_ok, run_equalIn_int w 9998 _ _ _ _ _ Try.underlying3, run_equalIn_int w 9998 _ _ _ _ _ Try.underlying32, run_equalIn_string w 9998 _ _ _ Try.underlying9, Sem.run_ite, Sem.run_pure]
  obtain ⟨a, b, c, d⟩ := x
  obtain ⟨a', b', c', d'⟩ := y
  by_cases h1 : a = a' <;> by_cases h2 : b = b' <;> by_cases h3 : c = c' <;> by_cases h4 : d = d' <;> simp [h1, h2, h3, h4, bne, Flx.mk.injEq, toList_beq, toList_inj]
set_option maxHeartbeats 1000000 in
theorem equalFlxs_any (A A' : Option Addr) (c c' : Nat) (l l' : List Flx) (w : World) (h : Reads w w.heap.size 4 A l.length (flxsV l)) (h' : Reads w w.heap.size 4 A' l'.length (flxsV l')) (hm : l.length ≤ 9223372036854775807) :
    Calls Try.prog 52 #[.slice A l.length c, .slice A' l'.length c'] w fun e w' => e = .returned (.bool (l == l')) ∧ Below w.heap.size w w' := by
  by_cases hlen : l.length = l'.length
  · have hne : ((l.length : Int) != (l'.length : Int)) = false := by rw [hlen]; simp
    have HL := Lib.hid hlen
    have l0 : l.length ≤ l'.length := by omega
    clear hlen
    go_enter Try.func52, Try.ntmps52
    go_wp2
    go_loopw [13] (fun i wr => ∃ k : Nat, k ≤ l.length ∧ i = .int .i64 k ∧ Hid (l.take k = l'.take k) ∧ Below w.heap.size w wr) (fun i _ => l.length - (intOf i).toNat)
    case atStart => exact ⟨0, Nat.zero_le _, rfl, rfl, Below.refl _ _⟩
    case round =>
      obtain ⟨k, hk, rfl, htk, hb⟩ := hrel
      by_cases hlt : k < l.length
      · have hlt' : k < l'.length := by omega
        obtain ⟨x, hx⟩ : ∃ x, l[k] = x := ⟨_, rfl⟩
        obtain ⟨y, hy⟩ : ∃ y, l'[k] = y := ⟨_, rfl⟩
        have HX := Lib.hid hx
        have HY := Lib.hid hy
        have hx' : l[k]? = some x := by rw [List.getElem?_eq_getElem hlt, hx]
        have hy' : l'[k]? = some y := by rw [List.getElem?_eq_getElem hlt', hy]
        obtain ⟨b, off, rfl, _, c0, c1, c2, c3⟩ := flx_get (h.below hb) hx'
        obtain ⟨b', off', rfl, _, d0, d1, d2, d3⟩ := flx_get (h'.below hb) hy'
        have hq := flx_neq x y
        clear hx hy hx' hy'
        by_cases hxy : x = y
        · have hn : (x != y) = false := by simpa using hxy
          rw [hn] at hq
          have HXY := Lib.hid hxy
          clear hxy
          go_wp2
          go_quiet (fail)
          go_wp2
          go_roundw
          case rel => exact ⟨k + 1, by omega, by go_num, by show l.take (k + 1) = l'.take (k + 1); rw [List.take_succ_eq_append_getElem hlt, List.take_succ_eq_append_getElem hlt', htk.out, HX.out, HY.out, HXY.out], by (repeat' (first | exact Below.refl _ _ | assumption | refine Below.setCell ?_ (by first | omega | exact Below.size (by assumption) | (simp; done) | (simp; omega)) _ | refine Below.alloc ?_ (by first | omega | exact Below.size (by assumption) | (simp; done) | (simp; omega)) _ | refine Below.drew ?_ | refine below_drewN ?_ _))⟩
          case measure => simp [intOf]; omega
        · have hn : (x != y) = true := by simpa using hxy
          rw [hn] at hq
          have HXY := Lib.hid hxy
          clear hxy
          go_wp2
          go_quiet (fail)
          go_wp2
          go_ret
          refine ⟨ret_val (by
            have : (l == l') = false := by
              rw [beq_eq_false_iff_ne]
              intro e
              subst e
              exact HXY.out (HX.out.symm.trans HY.out)
            rw [this]; rfl), by (repeat' (first | exact Below.refl _ _ | assumption | refine Below.setCell ?_ (by first | omega | exact Below.size (by assumption) | (simp; done) | (simp; omega)) _ | refine Below.alloc ?_ (by first | omega | exact Below.size (by assumption) | (simp; done) | (simp; omega)) _ | refine Below.drew ?_ | refine below_drewN ?_ _))⟩
      · go_wp2
        go_ret
        refine ⟨ret_val (by
          have hk' : k = l.length := by omega
          have : l = l' := by
            have := htk.out
            rw [hk', List.take_length] at this
            rw [HL.out, List.take_length] at this
            exact this
          rw [this]; simp), by (repeat' (first | exact Below.refl _ _ | assumption | refine Below.setCell ?_ (by first | omega | exact Below.size (by assumption) | (simp; done) | (simp; omega)) _ | refine Below.alloc ?_ (by first | omega | exact Below.size (by assumption) | (simp; done) | (simp; omega)) _ | refine Below.drew ?_ | refine below_drewN ?_ _))⟩
  · have hne : ((l.length : Int) != (l'.length : Int)) = true := by simp; omega
    have HL := Lib.hid hlen
    clear hlen
    go_enter Try.func52, Try.ntmps52
    go_wp2
    go_ret
    refine ⟨ret_val (by
      have : (l == l') = false := by
        rw [beq_eq_false_iff_ne]
        intro e
        exact HL.out (by rw [e])
      rw [this]; rfl), Below.refl _ _⟩
end Go.Proofs.Ytbhjdinjoonngaa
