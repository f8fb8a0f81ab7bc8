/- ropewalklaw.ArchivePlain: rows of parts held against each other; a row of strings of a call's own; its closure; items gathered. -/
import Derived.Test.YtbhjdinjoonngaaArcW
import Derived.Test.YtbhjdinjoonngaaSameW
set_option linter.all false
namespace Go.Proofs.Ytbhjdinjoonngaa
open Go.RowKit

theorem Try.infoStrsC : (Try.prog.info? 9).map (fun i => (i.zero, i.size, i.bytes)) = some (some (.string ⟨#[]⟩), 1, 16) := by kernel_rfl
set_option maxHeartbeats 1000000 in
theorem cloneStrsC_any (A : Option Addr) (n c : Nat) (cs : List Value) (w : World) (h : Reads w w.heap.size 1 A n cs) (h1 : ∀ u ∈ cs, u.oneCell' = true) (hn : n * 16 ≤ 140737488355328) (hm : n ≤ 9223372036854775807) :
    Calls Try.prog 38 #[.slice A n c] w fun e w' => ∃ v, e = .returned v ∧ w'.ownsRow w.heap.size 9 1 v n cs ∧ Below w.heap.size w w' := by
  obtain ⟨i0, hi, hz0, hz1, hz2⟩ := info_parts Try.infoStrsC
  have hq := fun W => run_eql_slice_nil_any (P := Try.prog) W 67 9 A n c 0 0 Try.underlying67
  rcases A with _ | ad
  · have hn0 : n = 0 := by
      rcases Nat.eq_zero_or_pos n with h0 | h0
      · exact h0
      · obtain ⟨b, off, e, _⟩ := h.2 h0
        cases e
    subst hn0
    have hcs : cs = [] := List.eq_nil_of_length_eq_zero (by simpa using h.1)
    subst hcs
    go_enter Try.func38, Try.ntmps38
    go_wp2
    go_ret
    exact ⟨_, rfl, World.ownsRow_nil _ _ _ _, Below.refl _ _⟩
  · have hown : (w.alloc (.cells #[] 9)).ownsRow w.heap.size 9 1 (.slice (some ⟨w.heap.size, 0, none⟩) 0 0) 0 [] := World.ownsRow_made _ _ _ (Nat.le_refl _) (Nat.zero_le _) rfl
    have hr := h.alloc (Nat.le_refl _) (.cells #[] 9)
    go_enter Try.func38, Try.ntmps38
    go_wp2_with (at_builtin; refine wpList_append_any _ rfl (.tmp 5) (.tmp 6) _ rfl w.heap.size 9 i0 (.string ⟨#[]⟩) 1 16 Try.underlying67 hi hz0 hz1 hz2 rfl (by omega) _ _ _ rfl hown w.heap.size (some ad) n c cs rfl hr h1 ?c2 ?c3 ?c4 ?_)
    case c2 => unfold maxLen; omega
    case c3 => omega
    case c4 => simp
    · intro v' w2 hown2 hg2 hat2
      have hb2 : Below w.heap.size w w2 := ((Below.refl _ _).alloc (Nat.le_refl _) _).grown hg2 (by simp) (fun g hg => (hown.lt g hg).1)
      clear hg2 hat2
      go_wp2
      go_ret
      exact ⟨_, rfl, hown2, hb2⟩


theorem pts_no {l l' : List PtM} {k : Nat} {x y : PtM} (hx : l[k]? = some x) (hy : l'[k]? = some y) (hd : decide (x.er = y.er) = false) : decide (l.map PtM.er = l'.map PtM.er) = false := by
  refine decide_eq_false fun h => of_decide_eq_false hd ?_
  have := congrArg (fun m : List Prt => m[k]?) h
  simp only [List.getElem?_map, hx, hy, Option.map_some, Option.some.injEq] at this
  exact this
set_option maxHeartbeats 8000000 in
set_option maxRecDepth 100000 in
theorem equalParts_any (A A' : Option Addr) (c c' : Nat) (l l' : List PtM) (w : World) (h : PtsAt w w.heap.size A l) (h' : PtsAt w w.heap.size A' l') (hm : l.length ≤ 9223372036854775807) (hm' : l'.length ≤ 9223372036854775807) :
    Calls Try.prog 17 #[.slice A l.length c, .slice A' l'.length c', .func (.func 18) #[] #[]] w
      fun e w' => e = .returned (.bool (decide (l.map PtM.er = l'.map PtM.er))) ∧ Below w.heap.size w w' := by
  have hr := h.row
  have hr' := h'.row
  have G1 := Lib.hid h.each
  have G2 := Lib.hid h'.each
  clear h h'
  by_cases hlen : l.length = l'.length
  · have hne : ((l.length : Int) != (l'.length : Int)) = false := by rw [hlen]; simp
    have HL := Lib.hid hlen
    have l0 : l.length ≤ l'.length := by omega
    clear hlen
    go_enter Try.func17, Try.ntmps17
    go_wp2
    go_loopw [17] (fun i wr => ∃ k : Nat, k ≤ l.length ∧ i = .int .i64 k ∧ Hid ((l.take k).map PtM.er = (l'.take k).map PtM.er) ∧ Below w.heap.size w wr) (fun i _ => l.length - (intOf i).toNat)
    case atStart => exact ⟨0, Nat.zero_le _, rfl, Lib.hid (by simp), Below.refl _ _⟩
    case round =>
      obtain ⟨k, hk, rfl, htk, hb⟩ := hrel
      by_cases hlt : k < l.length
      · have hlt' : k < l'.length := by omega
        obtain ⟨x, hx⟩ : ∃ x, l[k]? = some x := ⟨_, List.getElem?_eq_getElem hlt⟩
        obtain ⟨y, hy⟩ : ∃ y, l'[k]? = some y := ⟨_, List.getElem?_eq_getElem hlt'⟩
        have hX := (G1.out x (List.mem_of_getElem? hx)).keep hb hb.size
        have hY := (G2.out y (List.mem_of_getElem? hy)).keep hb hb.size
        obtain ⟨b, off, rfl, bl, c0, c1⟩ := pt_get (hr.below hb) hx
        obtain ⟨b', off', rfl, bl', d0, d1⟩ := pt_get ((hr'.below hb).alloc hb.size (.cells #[.slice (x).fa (x).frs.length (x).fc, .slice (x).da (x).dfs.length (x).dc] 44)) hy
        have bz := hb.size
        have z1 : b ≠ wr.heap.size := by omega
        have z2 : b' ≠ wr.heap.size := by omega
        have HX := Lib.hid hx
        have HY := Lib.hid hy
        have HT : Hid (x.er = y.er → (l.take (k + 1)).map PtM.er = (l'.take (k + 1)).map PtM.er) := fun e => by
          rw [List.take_add_one, List.take_add_one, hx, hy, List.map_append, List.map_append, htk.out]
          simp [e]
        clear hx hy
        go_wp2_with fail
        refine (same_any x y _ ?_ ?_).mono ?_
        · exact hX.keep (by (repeat' (first | exact Below.refl _ _ | assumption | refine Below.setCell ?_ (by first | omega | exact Below.size (by assumption) | (simp; done) | (simp; omega)) _ | refine Below.alloc ?_ (by first | omega | exact Below.size (by assumption) | (simp; done) | (simp; omega)) _ | refine Below.drew ?_ | refine below_drewN ?_ _))) (by simp; omega)
        · exact hY.keep (by (repeat' (first | exact Below.refl _ _ | assumption | refine Below.setCell ?_ (by first | omega | exact Below.size (by assumption) | (simp; done) | (simp; omega)) _ | refine Below.alloc ?_ (by first | omega | exact Below.size (by assumption) | (simp; done) | (simp; omega)) _ | refine Below.drew ?_ | refine below_drewN ?_ _))) (by simp; omega)
        rintro e w1 ⟨rfl, hb1⟩
        have hB : Below w.heap.size w w1 := Below.trans (by (repeat' (first | exact Below.refl _ _ | assumption | refine Below.setCell ?_ (by first | omega | exact Below.size (by assumption) | (simp; done) | (simp; omega)) _ | refine Below.alloc ?_ (by first | omega | exact Below.size (by assumption) | (simp; done) | (simp; omega)) _ | refine Below.drew ?_ | refine below_drewN ?_ _))) (hb1.mono (by have := hb.size; simp; omega))
        clear hb1 c0 c1 d0 d1
        rcases hd : decide (x.er = y.er) with _ | _
        · have HN := Lib.hid (pts_no HX.out HY.out hd)
          clear hd
          go_wp2
          go_ret
          exact ⟨ret_val (by rw [HN.out]; rfl), hB⟩
        · have hd' := HT.out (of_decide_eq_true hd)
          replace hd' := Lib.hid hd'
          clear hd
          go_wp2
          go_roundw
          case rel => exact ⟨k + 1, by omega, by go_num, hd', hB⟩
          case measure => simp [intOf]; omega
      · have hk' : k = l.length := by omega
        have HT : Hid (l.map PtM.er = l'.map PtM.er) := by
          have e1 := htk.out
          rw [hk', List.take_length, HL.out, List.take_length] at e1
          exact e1
        have HD := Lib.hid (decide_eq_true HT.out)
        clear hk'
        go_wp2
        go_ret
        exact ⟨ret_val (by rw [HD.out]; rfl), hb⟩
  · have hne : ((l.length : Int) != (l'.length : Int)) = true := by simp; omega
    have HN : Hid (decide (l.map PtM.er = l'.map PtM.er) = false) := decide_eq_false fun h => hlen (by have := congrArg List.length h; simpa using this)
    clear hlen
    go_enter Try.func17, Try.ntmps17
    go_wp2
    go_ret
    exact ⟨ret_val (by rw [HN.out]; rfl), Below.refl _ _⟩

/-! ### the closure: is a name among those? -/
set_option maxHeartbeats 8000000 in
set_option maxRecDepth 100000 in
theorem plain1_any (x : Df) (A : Option Addr) (c : Nat) (L : List ByteArray) (gB : Nat) (w : World) (kB : Blk w gB 67 #[.slice A L.length c]) (hL : Reads w w.heap.size 1 A L.length (strsV L)) (hm : L.length ≤ 9223372036854775807) :
    Calls Try.prog 39 #[.agg #[.string x.name, .int .i64 x.kind, .int .i64 x.frag, .int .i64 x.at_, .int .i64 x.size, .int .i64 x.align], .pointer (some ⟨gB, 0, none⟩)] w fun e w' => e = .returned (.bool (decide (x.name ∈ L))) ∧ Below w.heap.size w w' := by
  have kX := Blk.new w 78 #[.string x.name, .int .i64 x.kind, .int .i64 x.frag, .int .i64 x.at_, .int .i64 x.size, .int .i64 x.align]
  have hb : Below w.heap.size w (w.alloc (.cells #[.string x.name, .int .i64 x.kind, .int .i64 x.frag, .int .i64 x.at_, .int .i64 x.size, .int .i64 x.align] 78)) := by (repeat' (first | exact Below.refl _ _ | assumption | refine Below.setCell ?_ (by first | omega | exact Below.size (by assumption) | (simp; done) | (simp; omega)) _ | refine Below.alloc ?_ (by first | omega | exact Below.size (by assumption) | (simp; done) | (simp; omega)) _ | refine Below.drew ?_ | refine below_drewN ?_ _))
  replace kB := kB.all hb
  replace hL := (hL.below hb).more hb.size
  have b0 := kB.cell 0
  clear kX
  go_enter Try.func39, Try.ntmps39
  go_wp2_with fail
  refine (containsStr_any A c L x.name _ hL hm).mono ?_
  rintro e w' ⟨rfl, rfl⟩
  go_wp2
  go_ret
  exact ⟨rfl, hb⟩

set_option maxHeartbeats 8000000 in
set_option maxRecDepth 100000 in
theorem idxFDfp_any (A : Option Addr) (c : Nat) (l : List Df) (pr : Df → Bool) (gB : Nat) (w : World) (hR : Reads w w.heap.size 6 A l.length (dfsV l)) (hlm : l.length ≤ 9223372036854775807)
    (HL : ∀ x ∈ l, ∀ W, Below w.heap.size w W → Calls Try.prog 39 #[.agg #[.string x.name, .int .i64 x.kind, .int .i64 x.frag, .int .i64 x.at_, .int .i64 x.size, .int .i64 x.align], .pointer (some ⟨gB, 0, none⟩)] W fun e w' => e = .returned (.bool (pr x)) ∧ Below W.heap.size W w') :
    Calls Try.prog 94 #[.slice A l.length c, .func (.func 39) #[] #[.pointer (some ⟨gB, 0, none⟩)]] w
      fun e w' => (∃ n : Int, e = .returned (.int .i64 n) ∧ decide (0 ≤ n) = l.any pr) ∧ Below w.heap.size w w' := by
  have HL := Lib.hid HL
  go_enter Try.func94, Try.ntmps94
  go_wp2_with fail
  go_loopw [8] (fun i wr => ∃ k : Nat, k ≤ l.length ∧ i = .int .i64 k ∧ Hid ((l.take k).any pr = false) ∧ Below w.heap.size w wr) (fun i _ => l.length - (intOf i).toNat)
  case atStart => exact ⟨0, Nat.zero_le _, rfl, Lib.hid (by simp), Below.refl _ _⟩
  case round =>
    obtain ⟨k, hk, rfl, hno, hb⟩ := hrel
    by_cases hlt : k < l.length
    · obtain ⟨x, hx⟩ : ∃ x, l[k]? = some x := ⟨_, List.getElem?_eq_getElem hlt⟩
      obtain ⟨b, off, rfl, bl, c0, c1, c2, c3, c4, c5⟩ := df_get (hR.below hb) hx
      have HCx := HL.out x (List.mem_of_getElem? hx) wr hb
      have HY : Hid ((l.take (k + 1)).any pr = pr x) := by show _ = _; rw [List.take_add_one, hx, List.any_append, hno.out]; simp
      have HM : Hid (pr x = true → l.any pr = true) := fun h => List.any_eq_true.2 ⟨x, List.mem_of_getElem? hx, h⟩
      obtain ⟨t, ht⟩ : ∃ t, pr x = t := ⟨_, rfl⟩
      rw [ht] at HCx HY HM
      replace HCx := Lib.hid HCx
      clear hx ht
      cases t with
      | true =>
        have HM2 := Lib.hid (HM.out rfl)
        clear HM
        go_wp2_with (go_at_call 39; refine HCx.out.mono ?_; rintro e w' ⟨rfl, hb2⟩)
        go_ret
        exact ⟨⟨k, rfl, by rw [HM2.out]; exact decide_eq_true (by omega)⟩, hb.trans (hb2.mono hb.size)⟩
      | false =>
        go_wp2_with (go_at_call 39; refine HCx.out.mono ?_; rintro e w' ⟨rfl, hb2⟩)
        go_roundw
        case rel => exact ⟨k + 1, by omega, by go_num, HY, hb.trans (hb2.mono hb.size)⟩
        case measure => simp [intOf]; omega
    · obtain rfl : k = l.length := by omega
      go_wp2
      go_ret
      exact ⟨⟨-1, rfl, by have := hno.out; rw [List.take_length] at this; rw [this]; rfl⟩, hb⟩
set_option maxHeartbeats 8000000 in
theorem hasFDfp_any (A : Option Addr) (c : Nat) (l : List Df) (pr : Df → Bool) (gB : Nat) (w : World) (hR : Reads w w.heap.size 6 A l.length (dfsV l)) (hlm : l.length ≤ 9223372036854775807)
    (HL : ∀ x ∈ l, ∀ W, Below w.heap.size w W → Calls Try.prog 39 #[.agg #[.string x.name, .int .i64 x.kind, .int .i64 x.frag, .int .i64 x.at_, .int .i64 x.size, .int .i64 x.align], .pointer (some ⟨gB, 0, none⟩)] W fun e w' => e = .returned (.bool (pr x)) ∧ Below W.heap.size W w') :
    Calls Try.prog 34 #[.slice A l.length c, .func (.func 39) #[] #[.pointer (some ⟨gB, 0, none⟩)]] w
      fun e w' => e = .returned (.bool (l.any pr)) ∧ Below w.heap.size w w' := by
  have HI := Lib.hid (idxFDfp_any A c l pr gB w hR hlm HL)
  clear HL
  go_enter Try.func34, Try.ntmps34
  go_wp2_with fail
  refine HI.out.mono ?_
  rintro e w1 ⟨⟨n, rfl, hn⟩, hb⟩
  replace hn := Lib.hid hn
  go_wp2
  go_ret
  exact ⟨by rw [← hn.out]; rfl, hb⟩

/-! ### rows kept where a row of another type grows -/
theorem EV.srow {w wr w' : World} {base base' size n : Nat} {t : TypeId} {z v : Value} {qs : List PtM} {xs : List Value} (h : EV w wr base z qs) (hv : wr.ownsRow base' t size v n xs) (hB : base ≤ base') (hg : wr.grownBy w' v.ownBlock) (h0 : 44 ≠ t) (h1 : 100 ≠ t) (h2 : 78 ≠ t) (h3 : 5 ≠ t) (h4 : 119 ≠ t) : EV w w' base z qs :=
  ⟨own_kept h.hz hg (own_row_ne h.hz hv h0), fun q hq => (h.each q hq).row hv hg h1 h2 h3 h4, h.hB.grown hg h.hb (fun g hg' => Nat.le_trans hB (hv.lt g hg').1), Nat.le_trans h.hb hg.size⟩
theorem EV.set_ {w wr : World} {base g j : Nat} {z : Value} {qs : List PtM} {t : TypeId} {cs : Array Value} (h : EV w wr base z qs) (hb : Blk wr g t cs) (hg : base ≤ g) (h0 : 44 ≠ t) (h1 : 100 ≠ t) (h2 : 78 ≠ t) (h3 : 5 ≠ t) (h4 : 119 ≠ t) (u : Value) : EV w (wr.setCell ⟨g, j, none⟩ u) base z qs :=
  ⟨own_setCell h.hz (own_blk_ne h.hz hb h0) u, fun q hq => (h.each q hq).blk hb h1 h2 h3 h4 u, h.hB.setCell hg u, by have := h.hb; simpa [World.setCell] using this⟩
theorem cells_newg {w : World} {g : Nat} {t : TypeId} {xs : List Value} (hg : g = w.heap.size) (j : Nat) (u : Value) (hu : xs[j]? = some u) : (w.alloc (.cells xs.toArray t)).cell? ((⟨g, 0, none⟩ : Addr).add j) = some u := by
  subst hg
  exact cells_new j u hu
/-- Items that are gathered, each of one part. -/
structure IO (w wr : World) (v : Value) (l : List PtM) (its : List ItM) : Prop where
  row : wr.ownsRow w.heap.size 70 2 v its.length (itsV its)
  each : ∀ x ∈ its, x.arch = false ∧ wr.ownsRow w.heap.size 44 2 (.slice x.pa x.ps.length x.pc) x.ps.length (ptsV x.ps)
  ps : its.map ItM.ps = l.map fun p => [p]
  hB : Below w.heap.size w wr
section
variable {w wr w' : World} {v : Value} {l : List PtM} {its : List ItM}
theorem IO.all (h : IO w wr v l its) (hb : Below wr.heap.size wr w') : IO w w' v l its := ⟨own_all h.row hb, fun x hx => ⟨(h.each x hx).1, own_all (h.each x hx).2 hb⟩, h.ps, h.hB.trans (hb.mono h.hB.size)⟩
theorem IO.srow {base' size n : Nat} {t : TypeId} {u : Value} {xs : List Value} (h : IO w wr v l its) (hv : wr.ownsRow base' t size u n xs) (hB : w.heap.size ≤ base') (hg : wr.grownBy w' u.ownBlock) (h0 : 70 ≠ t) (h1 : 44 ≠ t) : IO w w' v l its :=
  ⟨own_kept h.row hg (own_row_ne h.row hv h0), fun x hx => ⟨(h.each x hx).1, own_kept (h.each x hx).2 hg (own_row_ne (h.each x hx).2 hv h1)⟩, h.ps, h.hB.grown hg h.hB.size (fun g hg' => Nat.le_trans hB (hv.lt g hg').1)⟩
theorem IO.set_ {g j : Nat} {t : TypeId} {cs : Array Value} (h : IO w wr v l its) (hb : Blk wr g t cs) (hg : w.heap.size ≤ g) (h0 : 70 ≠ t) (h1 : 44 ≠ t) (u : Value) : IO w (wr.setCell ⟨g, j, none⟩ u) v l its :=
  ⟨own_setCell h.row (own_blk_ne h.row hb h0) u, fun x hx => ⟨(h.each x hx).1, own_setCell (h.each x hx).2 (own_blk_ne (h.each x hx).2 hb h1) u⟩, h.ps, h.hB.setCell hg u⟩
theorem itsV_append (l m : List ItM) : itsV (l ++ m) = itsV l ++ itsV m := by unfold itsV; rw [List.flatMap_append]
theorem IO.push (h : IO w wr v l its) {p : PtM} {x : ItM} (hx : x.ps = [p]) (hxa : x.arch = false) (ho : wr.ownsRow w.heap.size 44 2 (.slice x.pa x.ps.length x.pc) x.ps.length (ptsV x.ps)) {w5 : World} {v' : Value} (hn : w5.ownsRow w.heap.size 70 2 v' (its.length + 1) (itsV its ++ x.cells)) (hg : wr.grownBy w5 v.ownBlock) : IO w w5 v' (l ++ [p]) (its ++ [x]) := by
  refine ⟨?_, fun y hy => ?_, by rw [List.map_append, List.map_append, h.ps]; simp [hx], h.hB.grown hg h.hB.size (fun g hg' => (h.row.lt g hg').1)⟩
  · rw [itsV_append, List.length_append]
    simpa [itsV] using hn
  · rcases List.mem_append.1 hy with hy | hy
    · exact ⟨(h.each y hy).1, own_kept (h.each y hy).2 hg (own_row_ne (h.each y hy).2 h.row (by decide))⟩
    · obtain rfl := List.mem_singleton.1 hy
      exact ⟨hxa, own_kept ho hg (own_row_ne ho h.row (by decide))⟩
theorem IO.len (h : IO w wr v l its) : its.length = l.length := by
  have := congrArg List.length h.ps
  simpa using this
theorem IO.at_ (h : IO w wr v l its) (hp : ∀ p ∈ l, p.At w w.heap.size) : ∀ x ∈ its, x.Good wr wr.heap.size := fun x hx => by
  have hxl : x.ps ∈ l.map fun p => [p] := by rw [← h.ps]; exact List.mem_map_of_mem hx
  obtain ⟨p, hp1, hp2⟩ := List.mem_map.1 hxl
  refine ⟨⟨Reads.of_own (h.each x hx).2, fun q hq => ?_⟩, by rw [← hp2]; simp⟩
  rw [← hp2] at hq
  obtain rfl := List.mem_singleton.1 hq
  exact (hp q hp1).keep h.hB h.hB.size
/-- One archive more. -/
theorem IO.more (h : IO w wr v l its) (hp : ∀ p ∈ l, p.At w w.heap.size) {x : ItM} (hx : PtsAt w w.heap.size x.pa x.ps) (hxm : x.ps.length ≤ 9223372036854775807) {w5 : World} {A' : Option Addr} {c' : Nat} (hn : w5.ownsRow w.heap.size 70 2 (.slice A' (its.length + 1) c') (its.length + 1) (itsV its ++ x.cells)) (hg : wr.grownBy w5 v.ownBlock) : ItsAt w5 w5.heap.size A' (its ++ [x]) ∧ Below w.heap.size w w5 := by
  have hb : Below w.heap.size w w5 := h.hB.grown hg h.hB.size (fun g hg' => (h.row.lt g hg').1)
  refine ⟨⟨?_, fun y hy => ?_⟩, hb⟩
  · have := Reads.of_own hn
    rw [itsV_append, List.length_append]
    simpa [itsV] using this
  · rcases List.mem_append.1 hy with hy | hy
    · have hyl : y.ps ∈ l.map fun p => [p] := by rw [← h.ps]; exact List.mem_map_of_mem hy
      obtain ⟨p, hp1, hp2⟩ := List.mem_map.1 hyl
      refine ⟨⟨Reads.of_own (own_kept (h.each y hy).2 hg (own_row_ne (h.each y hy).2 h.row (by decide))), fun q hq => ?_⟩, by rw [← hp2]; simp⟩
      rw [← hp2] at hq
      obtain rfl := List.mem_singleton.1 hq
      exact (hp q hp1).keep hb hb.size
    · obtain rfl := List.mem_singleton.1 hy
      exact ⟨hx.keep hb hb.size, hxm⟩
theorem IO.ers (h : IO w wr v l its) : its.map ItM.er = l.map fun p => ⟨false, [p.er]⟩ := by
  have h1 : its.map ItM.er = its.map fun x => (⟨false, x.ps.map PtM.er⟩ : Itm) := List.map_congr_left fun x hx => by
    show (⟨x.arch, _⟩ : Itm) = _
    rw [(h.each x hx).1]
  have h2 : its.map (fun x => (⟨false, x.ps.map PtM.er⟩ : Itm)) = (its.map ItM.ps).map fun ps => ⟨false, ps.map PtM.er⟩ := by rw [List.map_map]; rfl
  rw [h1, h2, h.ps, List.map_map]
  rfl
end
end Go.Proofs.Ytbhjdinjoonngaa
