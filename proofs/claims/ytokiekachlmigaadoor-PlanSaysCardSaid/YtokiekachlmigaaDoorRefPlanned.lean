/- ropewalkref.Planned: what it computes. -/
import Derived.Test.YtokiekachlmigaaDoorRefPlan
import Derived.Test.YtokiekachlmigaaDoorPlanMach
import Derived.BigQuiet
set_option linter.all false
namespace Go.Proofs.YtokiekachlmigaaDoor
open Go.RowKit

theorem own_cut {w : World} {base g n cap k size : Nat} {t : TypeId} {xs : List Value} (h : w.ownsRow base t size (.slice (some ⟨g, 0, none⟩) n cap) n xs) (hk : k ≤ n) :
    w.ownsRow base t size (.slice (some ⟨g, 0, none⟩) k cap) k (xs.take (k * size)) := by
  rcases h with ⟨hl, ⟨h0, _⟩ | ⟨g', cap', cur, e, hb, hg, hn, hm, hs, ht⟩⟩
  · cases h0
  · simp only [Value.slice.injEq, Option.some.injEq, Addr.mk.injEq, and_true, true_and] at e
    obtain ⟨rfl, rfl⟩ := e
    exact ⟨by rw [List.length_take, hl]; exact Nat.min_eq_left (Nat.mul_le_mul_right _ hk), .inr ⟨g, cap, cur, rfl, hb, hg, by omega, hm, hs, by rw [← ht, List.take_take, Nat.min_eq_left (Nat.mul_le_mul_right _ hk)]⟩⟩
def Span.cells (s : Span) : List Value := [.int .i64 s.from_, .int .i64 s.n, .bool s.up, .int .i64 s.left]
def spV (l : List Span) : List Value := l.flatMap Span.cells
theorem Span.cells_len (s : Span) : s.cells.length = 4 := rfl
theorem spV_len (l : List Span) : (spV l).length = l.length * 4 := flatMap_len Span.cells_len l
theorem spV_append (l m : List Span) : spV (l ++ m) = spV l ++ spV m := by unfold spV; rw [List.flatMap_append]
def slLen : Value → Nat
  | .slice _ n _ => n
  | _ => 0
theorem wts_cons (s : Span) (t : List Span) : wts (s :: t) = s.wt + wts t := by simp [wts]
theorem okS_up {s : Span} {t : List Span} {d : Nat} (h : okS (s :: t) d) (hu : s.up = true) : 2 ≤ d ∧ okS t (d - 1) := by
  unfold okS at h
  rw [if_pos hu] at h
  exact h
theorem okS_no {s : Span} {t : List Span} {d : Nat} (h : okS (s :: t) d) (hu : s.up = false) : 1 ≤ s.n ∧ s.n ≤ 12 ∧ okS t (d + 1) := by
  unfold okS at h
  rw [if_neg (by rw [hu]; simp)] at h
  exact h
theorem okS_two {s u : Span} {t : List Span} {d k : Nat} {x : Int} (h : okS (s :: t) d) (hs : s.up = false) (hu : u.up = true) (hk : (k : Int) + 1 < s.n) :
    okS (⟨s.from_, k + 1, false, x⟩ :: ⟨s.from_ + k + 1, s.n - k - 1, false, x⟩ :: u :: t) d := by
  obtain ⟨h1, h2, h3⟩ := okS_no h hs
  have e : okS (u :: t) (d + 1 + 1) := by unfold okS; rw [if_pos hu]; exact ⟨by omega, h3⟩
  have e2 : okS (⟨s.from_ + k + 1, s.n - k - 1, false, x⟩ :: u :: t) (d + 1) := by unfold okS; rw [if_neg (by simp)]; exact ⟨by show 1 ≤ s.n - k - 1; omega, by show s.n - k - 1 ≤ 12; omega, e⟩
  unfold okS
  rw [if_neg (by simp)]
  exact ⟨by show (1 : Int) ≤ k + 1; omega, by show (k : Int) + 1 ≤ 12; omega, e2⟩
theorem wts_two {s u : Span} {t : List Span} {k : Nat} {x : Int} (hs : s.up = false) (hu : u.up = true) (hn : s.n ≤ 12) (hk : (k : Int) + 1 < s.n) :
    wts (⟨s.from_, k + 1, false, x⟩ :: ⟨s.from_ + k + 1, s.n - k - 1, false, x⟩ :: u :: t) = wts (s :: t) := by
  rw [wts_cons, wts_cons, wts_cons, wts_cons]
  unfold Span.wt
  rw [hs, hu]
  simp only [Bool.false_eq_true, if_false, if_true]
  omega
theorem wts_ge {t : List Span} {d : Nat} (h : okS t d) : t.length ≤ wts t := by
  induction t generalizing d with
  | nil => simp
  | cons s r ih =>
    rw [wts_cons, List.length_cons]
    cases hu : s.up with
    | true =>
      have := ih (okS_up h hu).2
      unfold Span.wt
      rw [hu, if_pos rfl]
      omega
    | false =>
      obtain ⟨h1, h2, h3⟩ := okS_no h hu
      have := ih h3
      unfold Span.wt
      rw [hu]
      simp only [Bool.false_eq_true, if_false]
      omega
/-- Where the stack machine stands. -/
structure Mach (w wr : World) (res : List Nd) (t : List Span) (D : List Int) (L : List Nd) (pk : List Int) (v5 v6 v7 : Value) : Prop where
  nodes : wr.ownsRow w.heap.size 80 3 v5 L.length (ndCells L)
  todo : wr.ownsRow w.heap.size 137 4 v6 t.length (spV t.reverse)
  done : wr.ownsRow w.heap.size 3 1 v7 D.length (intsV D)
  fin_ : fin t D L pk = res
  ok : okS t D.length
  bd : ∀ s ∈ t, s.up = false → 0 ≤ s.from_ ∧ s.from_ + s.n ≤ 12
  len : L.length + wts t ≤ 23
  dl : D.length ≤ L.length
  pb : ∀ x ∈ pk, -9223372036854775808 ≤ x ∧ x ≤ 9223372036854775807
  below : Below w.heap.size w wr
theorem Tryd.infoNodesR : (Tryd.prog.info? 80).map (fun i => (i.zero, i.size, i.bytes)) = some (some (.agg #[.int .i64 0, .int .i64 0, .int .i64 0]), 3, 24) := by kernel_rfl
theorem Tryd.infoSpans : (Tryd.prog.info? 137).map (fun i => (i.zero, i.size, i.bytes)) = some (some (.agg #[.int .i64 0, .int .i64 0, .bool false, .int .i64 0]), 4, 32) := by kernel_rfl
theorem nd_oneR (x : Nd) : ∀ u ∈ x.cells, u.oneCell' = true := by
  intro u hu
  simp [Nd.cells] at hu
  rcases hu with rfl | rfl | rfl <;> rfl
theorem sp_one (l : List Span) : ∀ u ∈ spV l, u.oneCell' = true := by
  intro u hu
  obtain ⟨s, _, hu⟩ := List.mem_flatMap.1 hu
  simp [Span.cells] at hu
  rcases hu with rfl | rfl | rfl | rfl <;> rfl
set_option maxHeartbeats 16000000 in
set_option maxRecDepth 100000 in
theorem refPlanned_any (parts : Nat) (h1 : 1 ≤ parts) (h12 : parts ≤ 12) (A : Option Addr) (c : Nat) (picks : List Int) (w : World) (h : Reads w w.heap.size 1 A picks.length (intsV picks)) (hm : picks.length ≤ 9223372036854775807) (hcp : picks.length ≤ c) (hpb : ∀ x ∈ picks, -9223372036854775808 ≤ x ∧ x ≤ 9223372036854775807) :
    Calls Tryd.prog 46 #[.int .i64 parts, .slice A picks.length c] w
      fun e w' => ∃ v, e = .returned v ∧ w'.ownsRow w.heap.size 80 3 v ((growT (fun j => picks.getD j 0) parts 0).flat 0 0).length (ndCells ((growT (fun j => picks.getD j 0) parts 0).flat 0 0)) ∧ Below w.heap.size w w' := by
  obtain ⟨i0, hi0, hz0, hz1, hz2⟩ := info_parts Tryd.infoIntsR
  obtain ⟨i3, hi3, hn0, hn1, hn2⟩ := info_parts Tryd.infoNodesR
  obtain ⟨i4, hi4, hs0, hs1, hs2⟩ := info_parts Tryd.infoSpans
  obtain ⟨res, hres⟩ : ∃ r, (growT (fun j => picks.getD j 0) parts 0).flat 0 0 = r := ⟨_, rfl⟩
  have hfin : fin [⟨0, parts, false, 0⟩] [] [] picks = res := (fin_start parts h1 picks 0).trans hres
  rw [hres]
  have M0 : Mach w (w.alloc (.cells #[.int .i64 0, .int .i64 parts, .bool false, .int .i64 0] 137)) res [⟨0, parts, false, 0⟩] [] [] picks (.slice none 0 0) (.slice (some ⟨w.heap.size, 0, none⟩) 1 1) (.slice none 0 0) :=
    ⟨World.ownsRow_nil _ _ _ _, own_of_blk (size := 4) (n := 1) (Blk.new w 137 #[.int .i64 0, .int .i64 parts, .bool false, .int .i64 0]) (Nat.le_refl _) rfl (by decide), World.ownsRow_nil _ _ _ _, hfin,
      ⟨by show (1 : Int) ≤ parts; omega, by show (parts : Int) ≤ 12; omega, trivial⟩, fun s hs _ => by rw [List.mem_singleton.1 hs]; exact ⟨Int.le_refl _, by show (0 : Int) + parts ≤ 12; omega⟩, by simp [wts, Span.wt]; omega, Nat.le_refl _, hpb, by (repeat' (first | exact Below.refl _ _ | assumption | refine Below.setCell ?_ (by first | omega | exact Below.size (by assumption) | (simp; done) | (simp; omega)) _ | refine Below.alloc ?_ (by first | omega | exact Below.size (by assumption) | (simp; done) | (simp; omega)) _ | refine Below.drew ?_ | refine below_drewN ?_ _))⟩
  have M0 := Lib.hid M0
  clear hres hfin hpb
  go_enter Tryd.func46, Tryd.ntmps46
  go_wp2
  go_loopw [1, 5, 6, 7] (fun v1 v5 v6 v7 wr => ∃ (A1 : Option Addr) (c1 : Nat) (pk : List Int) (t : List Span) (D : List Int) (L : List Nd), v1 = .slice A1 pk.length c1 ∧ pk.length ≤ picks.length ∧ pk.length ≤ c1 ∧ Reads w w.heap.size 1 A1 pk.length (intsV pk) ∧ Mach w wr res t D L pk v5 v6 v7) (fun _ v5 v6 _ _ => 46 - 2 * slLen v5 - slLen v6)
  case atStart => exact ⟨A, c, picks, _, _, _, rfl, Nat.le_refl _, hcp, h, M0.out⟩
  case round =>
    clear M0 h
    obtain ⟨A1, c1, pk, t, D, L, rfl, hpl, hpc, hR, M⟩ := hrel
    have o5 := M.nodes
    have o6 := M.todo
    have o7 := M.done
    obtain ⟨A5, c5, rfl, _, _⟩ := own_form o5
    obtain ⟨A7, c7, rfl, _, _⟩ := own_form o7
    have hwg := wts_ge M.ok
    have hln := M.len
    have hdl := M.dl
    have hb := M.below
    have hb0 := hb.size
    rcases t with _ | ⟨s, r⟩
    · obtain ⟨A6, c6, rfl, _, _⟩ := own_form o6
      have hL : L = res := M.fin_
      rw [hL] at o5
      have HL := Lib.hid hL
      clear M o6 o7 hwg hln hdl hL
      go_wp2
      go_ret
      exact ⟨_, rfl, by rw [HL.out]; exact o5, hb⟩
    · rw [List.length_cons] at o6 hwg
      obtain ⟨g6, cap6, rfl, hg6, hg6'⟩ := o6.form (by omega)
      obtain ⟨nr, hnr⟩ : ∃ n, r.length = n := ⟨_, rfl⟩
      have hx : (s :: r).reverse[nr]? = some s := by rw [← hnr]; simp
      have hcap : nr + 1 ≤ cap6 := by
        obtain ⟨_, _, e, hh, _⟩ := own_form o6
        simp only [Value.slice.injEq, true_and] at e
        obtain ⟨_, rfl⟩ := e
        omega
      rw [hnr] at o6 hwg ⊢
      have hnr22 : nr ≤ 22 := by omega
      have hL23 : L.length ≤ 23 := by omega
      have hD23 : D.length ≤ 23 := by omega
      have hRT : Reads wr wr.heap.size 4 (some ⟨g6, 0, none⟩) (s :: r).reverse.length ((s :: r).reverse.flatMap Span.cells) := by
        rw [List.length_reverse, List.length_cons, hnr]
        exact Reads.of_own o6
      obtain ⟨b, off, eA, bl, hcl⟩ := cells_get Span.cells_len hRT hx
      injection eA with eA
      injection eA with e1 e2
      subst e1 e2
      have k0 := hcl 0 _ rfl
      have k1 := hcl 1 _ rfl
      have k2 := hcl 2 _ rfl
      have k3 := hcl 3 _ rfl
      simp only [Nat.zero_add, Nat.add_zero] at k0 k1 k2 k3
      have oc := own_cut o6 (show nr ≤ nr + 1 by omega)
      rw [List.reverse_cons, spV_append, List.take_left' (by rw [spV_len, List.length_reverse, hnr])] at oc
      have HM := Lib.hid M
      have HNR := Lib.hid hnr
      have hw1 : IntKind.i64.wrap (((nr + 1 : Nat) : Int) - 1) = (nr : Int) := by rw [IntKind.wrap_i64]; omega
      have hw2 : IntKind.i64.wrap ((nr : Int) + 1 - 1) = (nr : Int) := by rw [IntKind.wrap_i64]; omega
      clear M o6 hRT hcl hx hnr
      go_upto_region 14 with (fail)
      have kB0 := Blk.new wr 137 #[.int .i64 s.from_, .int .i64 s.n, .bool s.up, .int .i64 s.left]
      have hs : Below wr.heap.size wr (wr.alloc (.cells #[.int .i64 s.from_, .int .i64 s.n, .bool s.up, .int .i64 s.left] 137)) := by (repeat' (first | exact Below.refl _ _ | assumption | refine Below.setCell ?_ (by first | omega | exact Below.size (by assumption) | (simp; done) | (simp; omega)) _ | refine Below.alloc ?_ (by first | omega | exact Below.size (by assumption) | (simp; done) | (simp; omega)) _ | refine Below.drew ?_ | refine below_drewN ?_ _))
      replace o5 := own_all o5 hs
      replace o7 := own_all o7 hs
      replace oc := own_all oc hs
      have hb2 := hb.trans (hs.mono hb.size)
      obtain ⟨gB, hgB⟩ : ∃ y, y = wr.heap.size := ⟨_, rfl⟩
      obtain ⟨w2, hw2⟩ : ∃ y, y = wr.alloc (.cells #[.int .i64 s.from_, .int .i64 s.n, .bool s.up, .int .i64 s.left] 137) := ⟨_, rfl⟩
      rw [← hgB] at kB0 ⊢
      rw [← hw2] at kB0 o5 o7 oc hb2 ⊢
      have kB := kB0
      clear hw2 hgB hs hb hb0 k0 k1 k2 k3 kB0 bl hg6 hg6' hw1
      cases hu : s.up with
      | true =>
        have ⟨hd2, hok⟩ := okS_up HM.out.ok hu
        obtain ⟨m, hm2⟩ : ∃ m, D.length = m + 2 := ⟨D.length - 2, by omega⟩
        obtain ⟨x, hx⟩ : ∃ x, D[m]? = some x := ⟨_, List.getElem?_eq_getElem (by omega)⟩
        obtain ⟨y, hy⟩ : ∃ y, D[m + 1]? = some y := ⟨_, List.getElem?_eq_getElem (by omega)⟩
        have R7 := Reads.of_own o7
        obtain ⟨b7, off7, e7, _, q0⟩ := int_get R7 hx
        obtain ⟨b7', off7', e7', _, q1⟩ := int_get R7 hy
        rw [e7] at e7'
        injection e7' with e7'
        injection e7' with e1 e2
        subst e1 e2
        obtain ⟨g7, cap7, ev7, _, _⟩ := o7.form (by omega)
        simp only [Value.slice.injEq, true_and] at ev7
        obtain ⟨ev7, rfl⟩ := ev7
        rw [e7] at ev7
        injection ev7 with ev7
        injection ev7 with e1 e2
        subst e1 e2
        subst e7
        have ot := own_cut o7 (show m ≤ D.length by omega)
        rw [Nat.mul_one, show (intsV D).take m = intsV (D.take m) by simp [intsV, List.map_take]] at ot
        rw [hm2] at o7 ⊢
        simp only [Nat.zero_add] at q0 q1
        have HF : Hid (fin r (D.take m ++ [(L.length : Int)]) (L ++ [⟨-1, x, y⟩]) pk = res) := by
          have := HM.out.fin_
          rw [fin_up hu, hm2, show m + 2 - 2 = m by omega, show m + 2 - 1 = m + 1 by omega, List.getD_eq_getElem?_getD, List.getD_eq_getElem?_getD, hx, hy] at this
          exact this
        have HX2 := Lib.hid (And.intro hx hy)
        have x2 := kB.cell 2
        rw [hu] at x2
        have i1 : (m : Int) < (m : Int) + 2 := by omega
        have i2 : (m : Int) + 1 < (m : Int) + 2 := by omega
        clear hx hy R7
        go_upto_region 15 with (fail)
        clear x2
        go_quiet (fail)
        have hdn : Below w2.heap.size w2 (w2.drewN nq) := below_drewN (Below.refl _ _) nq
        replace o5 := own_all o5 hdn
        replace ot := own_all ot hdn
        replace oc := own_all oc hdn
        replace kB := kB.all hdn
        have hb3 := hb2.trans (hdn.mono hb2.size)
        obtain ⟨w3, hw3⟩ : ∃ y, y = w2.drewN nq := ⟨_, rfl⟩
        rw [← hw3] at o5 ot oc kB hb3 ⊢
        clear hw3 hdn q0 q1 o7 hb2
        go_upto_region 17 with ((at_builtin; refine wpList_append_own _ rfl (.tmp 88) (.tmp 91) 47 rfl w.heap.size 3 i0 (.int .i64 0) 1 8 Tryd.underlying47 hi0 hz0 hz1 hz2 rfl (by decide) _ _ _ rfl (ot.alloc _) ⟨_, 0, none⟩ 1 1 [.int .i64 (L.length : Int)] rfl rfl ?c1 ?c2 ?c3 ?c4 ?c5 ?_; (case c1 => exact one_cell); (case c2 => intro u hu; simp at hu; subst hu; rfl); (case c3 => unfold maxLen; omega); (case c4 => omega); (case c5 => have := hb3.size; simp; omega); intro v7 w5 ho7 hg7 _; obtain ⟨A7', c7', rfl, _, _⟩ := own_form ho7; have p5 := own_kept (o5.alloc _) hg7 (own_row_ne o5 ot (by decide)); have p6 := own_kept (oc.alloc _) hg7 (own_row_ne oc ot (by decide)); have kB5 := (kB.alloc _).grown hg7 (own_blk_ne ot kB (by decide)).symm; have hb5 := (hb3.alloc hb3.size _).grown hg7 (by have := hb3.size; simp; omega) (fun j hj => (ot.lt j hj).1)))
        clear o5 ot oc kB hb3
        go_wp2_with ((at_builtin; refine wpList_append_own _ rfl (.tmp 93) (.tmp 97) 70 rfl w.heap.size 80 i3 _ 3 24 Tryd.underlying70 hi3 hn0 hn1 hn2 rfl (by decide) _ _ _ rfl (p5.alloc _) ⟨_, 0, none⟩ 1 1 (Nd.cells (⟨-1, x, y⟩ : Nd)) rfl rfl ?c1 ?c2 ?c3 ?c4 ?c5 ?_; (case c1 => exact fun j u hu => cells_newR j u hu); (case c2 => exact nd_oneR _); (case c3 => unfold maxLen; omega); (case c4 => omega); (case c5 => have := hb5.size; simp; omega); intro v5 w6 ho5 hg5 _; obtain ⟨A5', c5', rfl, _, _⟩ := own_form ho5; have r7 := own_kept (ho7.alloc _) hg5 (own_row_ne ho7 p5 (by decide)); have r6 := own_kept (p6.alloc _) hg5 (own_row_ne p6 p5 (by decide)); have hb6 := (hb5.alloc hb5.size _).grown hg5 (by have := hb5.size; simp; omega) (fun j hj => (p5.lt j hj).1)))
        have hfin : Mach w w6 res r (D.take m ++ [(L.length : Int)]) (L ++ [⟨-1, x, y⟩]) pk (.slice A5' (L.length + 1) c5') (.slice (some ⟨g6, 0, none⟩) nr cap6) (.slice A7' (m + 1) c7') := by
          have hM := HM.out
          have hlen := hM.len
          have hdl := hM.dl
          rw [wts_cons] at hlen
          have hwt : s.wt = 1 := by unfold Span.wt; rw [hu]; rfl
          have l7 : (D.take m ++ [(L.length : Int)]).length = m + 1 := by simp; omega
          refine ⟨?_, ?_, ?_, HF.out, ?_, fun s' hs' => hM.bd s' (List.mem_cons_of_mem _ hs'), ?_, ?_, hM.pb, hb6⟩
          · rw [List.length_append, show ndCells (L ++ [(⟨-1, x, y⟩ : Nd)]) = ndCells L ++ Nd.cells ⟨-1, x, y⟩ by simp [ndCells]]
            exact ho5
          · rw [HNR.out]; exact r6
          · rw [l7, show intsV (D.take m ++ [(L.length : Int)]) = intsV (D.take m) ++ [.int .i64 (L.length : Int)] by simp [intsV, intV]]
            exact r7
          · rw [l7, show m + 1 = D.length - 1 by omega]; exact hok
          · rw [List.length_append, List.length_singleton]; omega
          · rw [l7, List.length_append, List.length_singleton]; omega
        clear r6 r7 ho5 hg5 hb6 HM
        go_roundw
        case rel => exact ⟨A1, c1, pk, r, _, _, rfl, hpl, hpc, hR, hfin⟩
        case measure => simp [slLen]; omega
      | false =>
        have ⟨hn1, hn12, hok⟩ := okS_no HM.out.ok hu
        obtain ⟨hf0, hf1⟩ := HM.out.bd s (by simp) hu
        have x2 := kB.cell 2
        have x1 := kB.cell 1
        have x0 := kB.cell 0
        rw [hu] at x2
        by_cases hn : s.n = 1
        · have t1 : (s.n == 1) = true := by simpa using hn
          have HF : Hid (fin r (D ++ [(L.length : Int)]) (L ++ [⟨s.from_, 0, 0⟩]) pk = res) := by
            have := HM.out.fin_
            rw [fin_one hu hn] at this
            exact this
          clear hn1 hn12 hf0 hf1
          go_upto_region 20 with ((at_builtin; refine wpList_append_own _ rfl (.tmp 103) (.tmp 106) 47 rfl w.heap.size 3 i0 (.int .i64 0) 1 8 Tryd.underlying47 hi0 hz0 hz1 hz2 rfl (by decide) _ _ _ rfl (o7.alloc _) ⟨_, 0, none⟩ 1 1 [.int .i64 (L.length : Int)] rfl rfl ?c1 ?c2 ?c3 ?c4 ?c5 ?_; (case c1 => exact one_cell); (case c2 => intro u hu; simp at hu; subst hu; rfl); (case c3 => unfold maxLen; omega); (case c4 => omega); (case c5 => have := hb2.size; simp; omega); intro v7 w5 ho7 hg7 _; obtain ⟨A7', c7', rfl, _, _⟩ := own_form ho7; have p5 := own_kept (o5.alloc _) hg7 (own_row_ne o5 o7 (by decide)); have p6 := own_kept (oc.alloc _) hg7 (own_row_ne oc o7 (by decide)); have kB5 := (kB.alloc _).grown hg7 (own_blk_ne o7 kB (by decide)).symm; have hb5 := (hb2.alloc hb2.size _).grown hg7 (by have := hb2.size; simp; omega) (fun j hj => (o7.lt j hj).1)))
          have x0 := kB5.cell 0
          clear o5 oc kB hb2 x1 x2
          go_wp2_with ((at_builtin; refine wpList_append_own _ rfl (.tmp 108) (.tmp 112) 70 rfl w.heap.size 80 i3 _ 3 24 Tryd.underlying70 hi3 hn0 hn1 hn2 rfl (by decide) _ _ _ rfl (p5.alloc _) ⟨_, 0, none⟩ 1 1 (Nd.cells (⟨s.from_, 0, 0⟩ : Nd)) rfl rfl ?c1 ?c2 ?c3 ?c4 ?c5 ?_; (case c1 => exact fun j u hu => cells_newR j u hu); (case c2 => exact nd_oneR _); (case c3 => unfold maxLen; omega); (case c4 => omega); (case c5 => have := hb5.size; simp; omega); intro v5 w6 ho5 hg5 _; obtain ⟨A5', c5', rfl, _, _⟩ := own_form ho5; have r7 := own_kept (ho7.alloc _) hg5 (own_row_ne ho7 p5 (by decide)); have r6 := own_kept (p6.alloc _) hg5 (own_row_ne p6 p5 (by decide)); have hb6 := (hb5.alloc hb5.size _).grown hg5 (by have := hb5.size; simp; omega) (fun j hj => (p5.lt j hj).1)))
          have hfin : Mach w w6 res r (D ++ [(L.length : Int)]) (L ++ [⟨s.from_, 0, 0⟩]) pk (.slice A5' (L.length + 1) c5') (.slice (some ⟨g6, 0, none⟩) nr cap6) (.slice A7' (D.length + 1) c7') := by
            have hM := HM.out
            have hlen := hM.len
            have hdl := hM.dl
            rw [wts_cons] at hlen
            have hwt : 1 ≤ s.wt := by unfold Span.wt; rw [hu, hn]; simp
            refine ⟨?_, ?_, ?_, HF.out, ?_, fun s' hs' => hM.bd s' (List.mem_cons_of_mem _ hs'), ?_, ?_, hM.pb, hb6⟩
            · rw [List.length_append, show ndCells (L ++ [(⟨s.from_, 0, 0⟩ : Nd)]) = ndCells L ++ Nd.cells ⟨s.from_, 0, 0⟩ by simp [ndCells]]
              exact ho5
            · rw [HNR.out]; exact r6
            · rw [List.length_append, show intsV (D ++ [(L.length : Int)]) = intsV D ++ [.int .i64 (L.length : Int)] by simp [intsV, intV]]
              exact r7
            · rw [List.length_append]; exact hok
            · rw [List.length_append, List.length_singleton]; omega
            · rw [List.length_append, List.length_append, List.length_singleton, List.length_singleton]; omega
          clear r6 r7 ho5 hg5 hb6 HM
          go_roundw
          case rel => exact ⟨A1, c1, pk, r, _, _, rfl, hpl, hpc, hR, hfin⟩
          case measure => simp [slLen]; omega
        · have t1 : (s.n == 1) = false := by simpa using hn
          have hn2 : 2 ≤ s.n := by omega
          have hnz : (s.n - 1 == 0) = false := beq_eq_false_iff_ne.2 (by omega)
          have hw3 : IntKind.i64.wrap (s.n - 1) = s.n - 1 := by rw [IntKind.wrap_i64]; omega
          clear hn hn1
          rcases pk with _ | ⟨y, pk'⟩
          · have hkn : ((0 : Nat) : Int) + 1 < s.n := by omega
            have HF : Hid (fin (⟨s.from_, 1, false, 0⟩ :: ⟨s.from_ + 1, s.n - 1, false, 0⟩ :: ⟨0, 0, true, 0⟩ :: r) D L [] = res) := by
              have := HM.out.fin_
              rw [fin_two (k := 0) hu hn2 (by simp) ⟨0, 0, true, 0⟩ rfl 0] at this
              exact Lib.hid (by simpa using this)
            have HPB : ∀ x ∈ ([] : List Int), -9223372036854775808 ≤ x ∧ x ≤ 9223372036854775807 := fun x hx => by cases hx
            have HOK2 : Hid (okS (⟨s.from_, 1, false, 0⟩ :: ⟨s.from_ + 1, s.n - 1, false, 0⟩ :: ⟨0, 0, true, 0⟩ :: r) D.length) := by
              have := okS_two (x := 0) HM.out.ok hu (u := ⟨0, 0, true, 0⟩) rfl hkn
              exact Lib.hid (by simpa using this)
            have HWT2 : Hid (wts (⟨s.from_, 1, false, 0⟩ :: ⟨s.from_ + 1, s.n - 1, false, 0⟩ :: ⟨0, 0, true, 0⟩ :: r) = wts (s :: r)) := by
              have := wts_two (x := 0) (t := r) hu (u := ⟨0, 0, true, 0⟩) rfl hn12 hkn
              exact Lib.hid (by simpa using this)
            go_upto_region 13 with (fail)
            have x0 := kB.cell 0
            have x1 := kB.cell 1
            go_wp2_with (at_builtin
                         refine wpList_append_own _ rfl (.tmp 49) (.tmp 67) 138 rfl w.heap.size 137 i4 _ 4 32 Tryd.underlying138 hi4 hs0 hs1 hs2 rfl (by decide) _ _ _ rfl (oc.alloc _) ⟨_, 0, none⟩ 3 3 (spV [⟨0, 0, true, 0⟩, ⟨s.from_ + 1, s.n - 1, false, 0⟩, ⟨s.from_, 1, false, 0⟩]) rfl rfl ?c1 ?c2 ?c3 ?c4 ?c5 ?_
                         case c1 => exact fun j u hu => cells_newR j u hu
                         case c2 => exact sp_one _
                         case c3 => unfold maxLen; omega
                         case c4 => omega
                         case c5 => have := hb2.size; simp; omega
                         intro v6 w6 ho6 hg6 _
                         obtain ⟨A6', c6', rfl, _, _⟩ := own_form ho6
                         have r5 := own_kept (o5.alloc _) hg6 (own_row_ne o5 oc (by decide))
                         have r7 := own_kept (o7.alloc _) hg6 (own_row_ne o7 oc (by decide))
                         have hb6 := (hb2.alloc hb2.size _).grown hg6 (by have := hb2.size; simp; omega) (fun j hj => (oc.lt j hj).1))
            have hfin : Mach w w6 res (⟨s.from_, 1, false, 0⟩ :: ⟨s.from_ + 1, s.n - 1, false, 0⟩ :: ⟨0, 0, true, 0⟩ :: r) D L ([]) (.slice A5 L.length c5) (.slice A6' (nr + 3) c6') (.slice A7 D.length c7) := by
              have hM := HM.out
              refine ⟨r5, ?_, r7, HF.out, HOK2.out, fun s' hs' hup => ?_, ?_, hM.dl, HPB, hb6⟩
              · rw [show (⟨s.from_, 1, false, 0⟩ :: ⟨s.from_ + 1, s.n - 1, false, 0⟩ :: ⟨0, 0, true, 0⟩ :: r : List Span).length = nr + 3 by rw [← HNR.out]; simp,
                  show (⟨s.from_, 1, false, 0⟩ :: ⟨s.from_ + 1, s.n - 1, false, 0⟩ :: ⟨0, 0, true, 0⟩ :: r : List Span).reverse = r.reverse ++ [⟨0, 0, true, 0⟩, ⟨s.from_ + 1, s.n - 1, false, 0⟩, ⟨s.from_, 1, false, 0⟩] by simp, spV_append]
                exact ho6
              · rcases List.mem_cons.1 hs' with rfl | hs'
                · exact ⟨hf0, by show s.from_ + 1 ≤ 12; omega⟩
                rcases List.mem_cons.1 hs' with rfl | hs'
                · exact ⟨by show 0 ≤ s.from_ + 1; omega, by show s.from_ + 1 + (s.n - 1) ≤ 12; omega⟩
                rcases List.mem_cons.1 hs' with rfl | hs'
                · cases hup
                · exact hM.bd s' (List.mem_cons_of_mem _ hs') hup
              · rw [HWT2.out]; exact hM.len
            clear r5 r7 ho6 hg6 hb6 HM
            go_roundw
            case rel => exact ⟨A1, c1, [], _, _, _, rfl, hpl, hpc, hR, hfin⟩
            case measure => simp [slLen]; omega
          · rw [List.length_cons] at hpl hpc hR ⊢
            obtain ⟨np, hnp⟩ : ∃ n, pk'.length = n := ⟨_, rfl⟩
            have hRt := hR.cut (k := 1) (cap := c1) (by omega) hpc
            obtain ⟨bp, op, ep, bpl, q0⟩ := int_get (l := y :: pk') ((hR.below hb2).more hb2.size) (show (y :: pk')[0]? = some y from rfl)
            rw [hnp] at hpl hpc hR hRt ⊢
            have hyb := HM.out.pb y (by simp)
            have HPB : ∀ x ∈ pk', -9223372036854775808 ≤ x ∧ x ≤ 9223372036854775807 := fun x hx => HM.out.pb x (List.mem_cons_of_mem _ hx)
            subst ep
            rw [Nat.add_zero] at q0
            have i1 : (0 : Int) < (np : Int) + 1 := by omega
            have i2 : 0 < np + 1 := by omega
            obtain ⟨A1', hA1⟩ : ∃ a, (if c1 = 1 then (some ⟨bp, op, none⟩ : Option Addr) else some ⟨bp, op + 1, none⟩) = a := ⟨_, rfl⟩
            have hRn : Reads w w.heap.size 1 A1' np (intsV pk') := by
              have e1 : (intsV (y :: pk')).drop (1 * 1) = intsV pk' := by simp [intsV]
              rw [e1, show np + 1 - 1 = np by omega] at hRt
              simp only [Option.map_some, add_none, Nat.mul_one] at hRt
              rw [← hA1]
              exact hRt
            have HA1 := Lib.hid hA1
            clear hRt hA1
            go_upto_region 9 with (fail)
            clear x0 x1 x2
            go_quiet (fail)
            rw [HA1.out]
            have hdn : Below w2.heap.size w2 (w2.drewN nq) := below_drewN (Below.refl _ _) nq
            replace o5 := own_all o5 hdn
            replace o7 := own_all o7 hdn
            replace oc := own_all oc hdn
            replace kB := kB.all hdn
            have hb3 := hb2.trans (hdn.mono hb2.size)
            obtain ⟨w3, hw3'⟩ : ∃ y, y = w2.drewN nq := ⟨_, rfl⟩
            rw [← hw3'] at o5 o7 oc kB hb3 ⊢
            clear hw3' hdn q0 hb2 bpl hR
            have hem := emod_of_tmod y (s.n - 1) (by omega)
            obtain ⟨tb0, tb1⟩ := tmod_bounds y (s.n - 1) (by omega)
            obtain ⟨tm, htm⟩ : ∃ t, y.tmod (s.n - 1) = t := ⟨_, rfl⟩
            rw [htm] at hem tb0 tb1
            have x0 := kB.cell 0
            have x1 := kB.cell 1
            obtain ⟨kk, hkk⟩ : ∃ kk : Nat, y % (s.n - 1) = kk := ⟨(y % (s.n - 1)).toNat, (Int.toNat_of_nonneg (Int.emod_nonneg y (by omega))).symm⟩
            have hkn : (kk : Int) + 1 < s.n := by have := Int.emod_lt_of_pos y (show 0 < s.n - 1 by omega); omega
            have HF : Hid (fin (⟨s.from_, kk + 1, false, 0⟩ :: ⟨s.from_ + kk + 1, s.n - kk - 1, false, 0⟩ :: ⟨0, 0, true, 0⟩ :: r) D L pk' = res) := by
              have := HM.out.fin_
              rw [fin_two (picks := y :: pk') (k := kk) hu hn2 hkk ⟨0, 0, true, 0⟩ rfl 0] at this
              exact this
            rw [hkk] at hem
            clear hkk
            rcases Int.lt_or_le tm 0 with hneg | hpos
            · rw [if_pos hneg] at hem
              have t3 : decide (tm < 0) = true := decide_eq_true hneg
              have hk : tm + (s.n - 1) = (kk : Int) := hem.symm
              clear hem hneg
              go_upto_region 13 with (fail)
              have x0 := kB.cell 0
              have x1 := kB.cell 1
              go_wp2_with (at_builtin
                           refine wpList_append_own _ rfl (.tmp 49) (.tmp 67) 138 rfl w.heap.size 137 i4 _ 4 32 Tryd.underlying138 hi4 hs0 hs1 hs2 rfl (by decide) _ _ _ rfl (oc.alloc _) ⟨_, 0, none⟩ 3 3 (spV [⟨0, 0, true, 0⟩, ⟨s.from_ + kk + 1, s.n - kk - 1, false, 0⟩, ⟨s.from_, kk + 1, false, 0⟩]) rfl rfl ?c1 ?c2 ?c3 ?c4 ?c5 ?_
                           case c1 => exact fun j u hu => cells_newR j u hu
                           case c2 => exact sp_one _
                           case c3 => unfold maxLen; omega
                           case c4 => omega
                           case c5 => have := hb3.size; simp; omega
                           intro v6 w6 ho6 hg6 _
                           obtain ⟨A6', c6', rfl, _, _⟩ := own_form ho6
                           have r5 := own_kept (o5.alloc _) hg6 (own_row_ne o5 oc (by decide))
                           have r7 := own_kept (o7.alloc _) hg6 (own_row_ne o7 oc (by decide))
                           have hb6 := (hb3.alloc hb3.size _).grown hg6 (by have := hb3.size; simp; omega) (fun j hj => (oc.lt j hj).1))
              have hfin : Mach w w6 res (⟨s.from_, kk + 1, false, 0⟩ :: ⟨s.from_ + kk + 1, s.n - kk - 1, false, 0⟩ :: ⟨0, 0, true, 0⟩ :: r) D L (pk') (.slice A5 L.length c5) (.slice A6' (nr + 3) c6') (.slice A7 D.length c7) := by
                have hM := HM.out
                refine ⟨r5, ?_, r7, HF.out, okS_two hM.ok hu rfl hkn, fun s' hs' hup => ?_, ?_, hM.dl, HPB, hb6⟩
                · rw [show (⟨s.from_, (kk : Int) + 1, false, 0⟩ :: ⟨s.from_ + kk + 1, s.n - kk - 1, false, 0⟩ :: ⟨0, 0, true, 0⟩ :: r : List Span).length = nr + 3 by rw [← HNR.out]; simp,
                    show (⟨s.from_, (kk : Int) + 1, false, 0⟩ :: ⟨s.from_ + kk + 1, s.n - kk - 1, false, 0⟩ :: ⟨0, 0, true, 0⟩ :: r : List Span).reverse = r.reverse ++ [⟨0, 0, true, 0⟩, ⟨s.from_ + kk + 1, s.n - kk - 1, false, 0⟩, ⟨s.from_, kk + 1, false, 0⟩] by simp, spV_append]
                  exact ho6
                · rcases List.mem_cons.1 hs' with rfl | hs'
                  · exact ⟨hf0, by show s.from_ + ((kk : Int) + 1) ≤ 12; omega⟩
                  rcases List.mem_cons.1 hs' with rfl | hs'
                  · exact ⟨by show 0 ≤ s.from_ + kk + 1; omega, by show s.from_ + kk + 1 + (s.n - kk - 1) ≤ 12; omega⟩
                  rcases List.mem_cons.1 hs' with rfl | hs'
                  · cases hup
                  · exact hM.bd s' (List.mem_cons_of_mem _ hs') hup
                · rw [wts_two hu rfl hn12 hkn]; exact hM.len
              clear r5 r7 ho6 hg6 hb6 HM
              go_roundw
              case rel => exact ⟨A1', (c1 - 1), pk', _, _, _, by rw [hnp], (by rw [hnp]; omega), (by rw [hnp]; omega), (by rw [hnp]; exact hRn), hfin⟩
              case measure => simp [slLen]; omega
            · rw [if_neg (by omega)] at hem
              obtain rfl : tm = (kk : Int) := hem.symm
              have t3 : decide ((kk : Int) < 0) = false := decide_eq_false (by omega)
              clear hem
              go_upto_region 13 with (fail)
              have x0 := kB.cell 0
              have x1 := kB.cell 1
              go_wp2_with (at_builtin
                           refine wpList_append_own _ rfl (.tmp 49) (.tmp 67) 138 rfl w.heap.size 137 i4 _ 4 32 Tryd.underlying138 hi4 hs0 hs1 hs2 rfl (by decide) _ _ _ rfl (oc.alloc _) ⟨_, 0, none⟩ 3 3 (spV [⟨0, 0, true, 0⟩, ⟨s.from_ + kk + 1, s.n - kk - 1, false, 0⟩, ⟨s.from_, kk + 1, false, 0⟩]) rfl rfl ?c1 ?c2 ?c3 ?c4 ?c5 ?_
                           case c1 => exact fun j u hu => cells_newR j u hu
                           case c2 => exact sp_one _
                           case c3 => unfold maxLen; omega
                           case c4 => omega
                           case c5 => have := hb3.size; simp; omega
                           intro v6 w6 ho6 hg6 _
                           obtain ⟨A6', c6', rfl, _, _⟩ := own_form ho6
                           have r5 := own_kept (o5.alloc _) hg6 (own_row_ne o5 oc (by decide))
                           have r7 := own_kept (o7.alloc _) hg6 (own_row_ne o7 oc (by decide))
                           have hb6 := (hb3.alloc hb3.size _).grown hg6 (by have := hb3.size; simp; omega) (fun j hj => (oc.lt j hj).1))
              have hfin : Mach w w6 res (⟨s.from_, kk + 1, false, 0⟩ :: ⟨s.from_ + kk + 1, s.n - kk - 1, false, 0⟩ :: ⟨0, 0, true, 0⟩ :: r) D L (pk') (.slice A5 L.length c5) (.slice A6' (nr + 3) c6') (.slice A7 D.length c7) := by
                have hM := HM.out
                refine ⟨r5, ?_, r7, HF.out, okS_two hM.ok hu rfl hkn, fun s' hs' hup => ?_, ?_, hM.dl, HPB, hb6⟩
                · rw [show (⟨s.from_, (kk : Int) + 1, false, 0⟩ :: ⟨s.from_ + kk + 1, s.n - kk - 1, false, 0⟩ :: ⟨0, 0, true, 0⟩ :: r : List Span).length = nr + 3 by rw [← HNR.out]; simp,
                    show (⟨s.from_, (kk : Int) + 1, false, 0⟩ :: ⟨s.from_ + kk + 1, s.n - kk - 1, false, 0⟩ :: ⟨0, 0, true, 0⟩ :: r : List Span).reverse = r.reverse ++ [⟨0, 0, true, 0⟩, ⟨s.from_ + kk + 1, s.n - kk - 1, false, 0⟩, ⟨s.from_, kk + 1, false, 0⟩] by simp, spV_append]
                  exact ho6
                · rcases List.mem_cons.1 hs' with rfl | hs'
                  · exact ⟨hf0, by show s.from_ + ((kk : Int) + 1) ≤ 12; omega⟩
                  rcases List.mem_cons.1 hs' with rfl | hs'
                  · exact ⟨by show 0 ≤ s.from_ + kk + 1; omega, by show s.from_ + kk + 1 + (s.n - kk - 1) ≤ 12; omega⟩
                  rcases List.mem_cons.1 hs' with rfl | hs'
                  · cases hup
                  · exact hM.bd s' (List.mem_cons_of_mem _ hs') hup
                · rw [wts_two hu rfl hn12 hkn]; exact hM.len
              clear r5 r7 ho6 hg6 hb6 HM
              go_roundw
              case rel => exact ⟨A1', (c1 - 1), pk', _, _, _, by rw [hnp], (by rw [hnp]; omega), (by rw [hnp]; omega), (by rw [hnp]; exact hRn), hfin⟩
              case measure => simp [slLen]; omega
end Go.Proofs.YtokiekachlmigaaDoor
