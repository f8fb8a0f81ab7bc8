/- FmB: texts that belong together. -/
import Derived.Lib.SliceRun
import Derived.OwnWalk
import Derived.Test.YtkfmkemjoddinaaBC
import Derived.Test.YtkfmkemjoddinaaFmA
set_option linter.all false
/- Rows of a call's own whose elements have many cells: many cells stored, made shorter, cleared. No program in sight. -/
namespace Go.Proofs.Ytkfmkemjoddinaa
open Go.RowKit

theorem zero_flat {α : Type} (l : List α) (z : Array Value) (hz : 0 < z.size) : (Builtin.zeroCells z l.length).toList = l.flatMap fun _ => z.toList := by
  have hlen : ∀ a : α, ((fun _ => z.toList : α → List Value) a).length = z.size := fun _ => by simp
  have hL := flatMap_len hlen l
  refine List.ext_getElem? fun i => ?_
  by_cases h : i < l.length * z.size
  · have hd : i / z.size < l.length := (Nat.div_lt_iff_lt_mul hz).2 h
    have hm : i % z.size < z.size := Nat.mod_lt _ hz
    have hr := flatMap_get hlen l (i / z.size) (i % z.size) l[i / z.size] hm (List.getElem?_eq_getElem hd)
    rw [Nat.div_add_mod'] at hr
    rw [hr]
    simp [Builtin.zeroCells, h, hm]
  · have hL2 : (Builtin.zeroCells z l.length).toList.length = l.length * z.size := by simp [Builtin.zeroCells]
    rw [List.getElem?_eq_none (by rw [hL2]; omega), List.getElem?_eq_none (by rw [hL]; omega)]

theorem run_clear_k {P : Program} {α : Type} (l : List α) (w : World) (t e ty : TypeId) (z : Value) (ht : P.underlying t = some (.slice e)) (hv : ∀ w, (zeroValue e).run P w = .ok z w) (hz : 0 < z.cells.size) (h1 : ∀ u ∈ z.cells.toList, u.oneCell' = true) (b o n c : Nat) (hl : n = l.length) (hn : 0 < n)
    (hc : ∀ j, j < n * z.cells.size → (w.cell? ⟨b, o + j, none⟩).isSome = true) (hf : ∀ j, j < n * z.cells.size → w.frozen? ⟨b, o + j, none⟩ = false) :
    (Builtin.clear_ #[t] ty #[.slice (some ⟨b, o, none⟩) n c]).run P w = .ok (.tuple #[]) (w.setCells b o (l.flatMap fun _ => z.cells.toList)) := by
  subst hl
  have hzc := zero_flat l z.cells hz
  have hL : (l.flatMap fun _ => z.cells.toList).length = l.length * z.cells.size := flatMap_len (fun _ => by simp) l
  have hst := Go.run_storeCells_cells (P := P) b o (l.flatMap fun _ => z.cells.toList) 0 w (by rw [hL]; simpa using hc) (by rw [hL]; simpa using hf) (by
    intro v hv'
    obtain ⟨_, _, h⟩ := List.mem_flatMap.1 hv'
    exact h1 v h)
  simp only [Nat.add_zero] at hst
  obtain ⟨m, hm⟩ : ∃ m, l.length = m + 1 := ⟨l.length - 1, by omega⟩
  rw [hm] at hzc ⊢
  simp [Builtin.clear_, run_underlying ht, hv, hzc, hst]

def setL : List Value → Nat → List Value → List Value
  | xs, _, [] => xs
  | xs, o, v :: r => setL (xs.set o v) (o + 1) r
theorem setL_out (vs : List Value) : ∀ (o : Nat) (xs : List Value), xs.length ≤ o → setL xs o vs = xs := by
  induction vs with
  | nil => intro o xs _; rfl
  | cons v r ih =>
    intro o xs h
    rw [setL, List.set_eq_of_length_le h, ih _ _ (by omega)]
theorem setL_eq (vs : List Value) : ∀ (o : Nat) (xs : List Value), o + vs.length ≤ xs.length → setL xs o vs = xs.take o ++ vs ++ xs.drop (o + vs.length) := by
  induction vs with
  | nil => intro o xs _; simp [setL]
  | cons v r ih =>
    intro o xs h
    rw [List.length_cons] at h
    rw [setL, ih _ _ (by rw [List.length_set]; omega), List.take_add_one, List.length_cons, List.take_set_of_le (by omega), List.getElem?_set_self (by omega), List.drop_set_of_lt (by omega)]
    simp [Nat.add_assoc, Nat.add_comm 1]
section
variable {base size g cap : Nat} {t : TypeId}
theorem own_cells {n : Nat} : ∀ (vs : List Value) (o : Nat) (w : World) (xs : List Value), w.ownsRow base t size (.slice (some ⟨g, 0, none⟩) n cap) n xs →
    (w.setCells g o vs).ownsRow base t size (.slice (some ⟨g, 0, none⟩) n cap) n (setL xs o vs) ∧ w.grownBy (w.setCells g o vs) (some g)
  | [], _, w, _, h => ⟨h, World.grownBy.refl w _⟩
  | v :: r, o, w, xs, h => by
    have h1 := h.stored o v
    have h2 := own_cells r (o + 1) (w.setCell ⟨g, o, none⟩ v) _ h1.1
    exact ⟨h2.1, h1.2.trans h2.2⟩
theorem own_less {w : World} {n k : Nat} {xs : List Value} (h : w.ownsRow base t size (.slice (some ⟨g, 0, none⟩) n cap) n xs) (hk : k ≤ n) :
    w.ownsRow base t size (.slice (some ⟨g, 0, none⟩) k cap) k (xs.take (k * size)) := by
  rcases h with ⟨hl, ⟨h0, _⟩ | ⟨g', cap', cur, e, hb, hg, hn, hm, hs, ht⟩⟩
  · cases h0
  · simp only [Value.slice.injEq, Option.some.injEq, Addr.mk.injEq, and_true, true_and] at e
    obtain ⟨rfl, rfl⟩ := e
    have hks : k * size ≤ n * size := Nat.mul_le_mul_right _ hk
    refine ⟨?_, .inr ⟨g, cap, cur, rfl, hb, hg, by omega, hm, hs, ?_⟩⟩
    · rw [List.length_take, hl]; omega
    · rw [← ht, List.take_take, Nat.min_eq_left hks]
theorem own_isSome {w : World} {n : Nat} {xs : List Value} (h : w.ownsRow base t size (.slice (some ⟨g, 0, none⟩) n cap) n xs) {j : Nat} (hj : j < n * size) : (w.cell? ⟨g, j, none⟩).isSome = true := by
  rw [h.cellAt j hj, List.getElem?_eq_getElem (by rw [h.1]; exact hj)]; rfl
end
/-- What is written in one row leaves rows of other element types as they are. -/
theorem own_kept_ty {w w' : World} {base size n base' size' n' : Nat} {e e' : TypeId} {v v' : Value} {xs xs' : List Value} (h : w.ownsRow base e size v n xs) (h' : w.ownsRow base' e' size' v' n' xs') (hne : e ≠ e') (hg : w.grownBy w' v'.ownBlock) : w'.ownsRow base e size v n xs := by
  refine h.kept hg ?_
  rcases hv : v.ownBlock with _ | g
  · exact .inl rfl
  · exact .inr fun he => own_ne_own h h' hne hv he.symm
theorem PtM.Own.kept_ty {w w' : World} {base base' size' n' : Nat} {e' : TypeId} {v' : Value} {xs' : List Value} {p : PtM} (h : p.Own w base) (h' : w.ownsRow base' e' size' v' n' xs')
    (h1 : 84 ≠ e') (h2 : 79 ≠ e') (h3 : 5 ≠ e') (h4 : 88 ≠ e') (hg : w.grownBy w' v'.ownBlock) : p.Own w' base :=
  ⟨own_kept_ty h.fr h' h1 hg, own_kept_ty h.df h' h2 hg, fun x hx => ⟨own_kept_ty (h.each x hx).by_ h' h3 hg, own_kept_ty (h.each x hx).re h' h4 hg⟩, h.apart⟩
end Go.Proofs.Ytkfmkemjoddinaa

/- A farm in memory of the call's own. -/
namespace Go.Proofs.Ytkfmkemjoddinaa
open Go.RowKit

structure FrM.Own (w : World) (base : Nat) (f : FrM) : Prop where
  ps : w.ownsRow base 44 2 (.slice f.pa f.ps.length f.pc) f.ps.length (ptsV f.ps)
  pse : ∀ p ∈ f.ps, p.Own w base
  pl : w.ownsRow base 39 3 (.slice f.la f.pl.length f.lc) f.pl.length (ndCells f.pl)
  dn : w.ownsRow base 4 1 (.slice f.da f.dn.length f.dc) f.dn.length (boolsV f.dn)
  hv : w.ownsRow base 44 2 (.slice f.ha f.hv.length f.hc) f.hv.length (ptsV f.hv)
  hve : ∀ p ∈ f.hv, p.Own w base
  gs : w.ownsRow base 76 2 (.slice f.ga f.gs.length f.gc) f.gs.length (grsV f.gs)
  wk : w.ownsRow base 3 1 (.slice f.wa f.wk.length f.wc) f.wk.length (intsV f.wk)
  nt : w.ownsRow base 50 5 (.slice f.na f.nt.length f.nc) f.nt.length (mssV f.nt)
  nte : ∀ m ∈ f.nt, m.p.Own w base
  apart : (Value.slice f.pa f.ps.length f.pc).ownBlock = none ∨ (Value.slice f.pa f.ps.length f.pc).ownBlock ≠ (Value.slice f.ha f.hv.length f.hc).ownBlock
theorem FrM.Own.all {w w' : World} {base : Nat} {f : FrM} (h : f.Own w base) (hb : Below w.heap.size w w') : f.Own w' base :=
  ⟨own_all h.ps hb, fun p hp => (h.pse p hp).all hb, own_all h.pl hb, own_all h.dn hb, own_all h.hv hb, fun p hp => (h.hve p hp).all hb, own_all h.gs hb, own_all h.wk hb, own_all h.nt hb, fun m hm => (h.nte m hm).all hb, h.apart⟩
theorem FrM.Own.at_ {w : World} {base : Nat} {f : FrM} (h : f.Own w base) : f.At w w.heap.size := by
  have hl : ∀ {t : TypeId} {size n c : Nat} {A : Option Addr} {xs : List Value}, w.ownsRow base t size (.slice A n c) n xs → n ≤ 9223372036854775807 := fun h => by
    obtain ⟨A, c, e, h1, h2⟩ := own_form h
    omega
  exact ⟨⟨Reads.of_own h.ps, fun p hp => (h.pse p hp).at_⟩, Reads.of_own h.pl, Reads.of_own h.dn, ⟨Reads.of_own h.hv, fun p hp => (h.hve p hp).at_⟩, Reads.of_own h.gs, Reads.of_own h.wk, Reads.of_own h.nt, fun m hm => (h.nte m hm).at_, hl h.ps, hl h.pl, hl h.dn, hl h.hv, hl h.gs, hl h.wk, hl h.nt⟩
end Go.Proofs.Ytkfmkemjoddinaa

/- A farm of the call's own: what stays where one of its rows is written. No program in sight but its types' numbers. -/
namespace Go.Proofs.Ytkfmkemjoddinaa
open Go.RowKit

section
variable {w w' : World} {base : Nat} {f : FrM}
theorem FrM.Own.net (h : f.Own w base) {na : Option Addr} {nt : List MsM} {nc : Nat} (hg : w.grownBy w' (Value.slice f.na f.nt.length f.nc).ownBlock)
    (hr : w'.ownsRow base 50 5 (.slice na nt.length nc) nt.length (mssV nt)) (he : ∀ m ∈ nt, m.p.Own w' base) : FrM.Own w' base { f with nt := nt, na := na, nc := nc } :=
  ⟨own_kept_ty h.ps h.nt (by decide) hg, fun p hp => (h.pse p hp).kept_ty h.nt (by decide) (by decide) (by decide) (by decide) hg, own_kept_ty h.pl h.nt (by decide) hg, own_kept_ty h.dn h.nt (by decide) hg,
    own_kept_ty h.hv h.nt (by decide) hg, fun p hp => (h.hve p hp).kept_ty h.nt (by decide) (by decide) (by decide) (by decide) hg, own_kept_ty h.gs h.nt (by decide) hg, own_kept_ty h.wk h.nt (by decide) hg, hr, he, h.apart⟩
theorem FrM.Own.grants (h : f.Own w base) {gs : List Gr} (hl : gs.length = f.gs.length) (hg : w.grownBy w' (Value.slice f.ga f.gs.length f.gc).ownBlock)
    (hr : w'.ownsRow base 76 2 (.slice f.ga f.gs.length f.gc) f.gs.length (grsV gs)) : FrM.Own w' base { f with gs := gs } :=
  ⟨own_kept_ty h.ps h.gs (by decide) hg, fun p hp => (h.pse p hp).kept_ty h.gs (by decide) (by decide) (by decide) (by decide) hg, own_kept_ty h.pl h.gs (by decide) hg, own_kept_ty h.dn h.gs (by decide) hg,
    own_kept_ty h.hv h.gs (by decide) hg, fun p hp => (h.hve p hp).kept_ty h.gs (by decide) (by decide) (by decide) (by decide) hg, by show World.ownsRow w' base _ 2 (.slice f.ga gs.length f.gc) gs.length _; rw [hl]; exact hr, own_kept_ty h.wk h.gs (by decide) hg, own_kept_ty h.nt h.gs (by decide) hg,
    fun m hm => (h.nte m hm).kept_ty h.gs (by decide) (by decide) (by decide) (by decide) hg, h.apart⟩
theorem FrM.Own.work (h : f.Own w base) {wk : List Int} (hl : wk.length = f.wk.length) (hg : w.grownBy w' (Value.slice f.wa f.wk.length f.wc).ownBlock)
    (hr : w'.ownsRow base 3 1 (.slice f.wa f.wk.length f.wc) f.wk.length (intsV wk)) : FrM.Own w' base { f with wk := wk } :=
  ⟨own_kept_ty h.ps h.wk (by decide) hg, fun p hp => (h.pse p hp).kept_ty h.wk (by decide) (by decide) (by decide) (by decide) hg, own_kept_ty h.pl h.wk (by decide) hg, own_kept_ty h.dn h.wk (by decide) hg,
    own_kept_ty h.hv h.wk (by decide) hg, fun p hp => (h.hve p hp).kept_ty h.wk (by decide) (by decide) (by decide) (by decide) hg, own_kept_ty h.gs h.wk (by decide) hg, by show World.ownsRow w' base _ 1 (.slice f.wa wk.length f.wc) wk.length _; rw [hl]; exact hr, own_kept_ty h.nt h.wk (by decide) hg,
    fun m hm => (h.nte m hm).kept_ty h.wk (by decide) (by decide) (by decide) (by decide) hg, h.apart⟩
theorem FrM.Own.done (h : f.Own w base) {dn : List Bool} (hl : dn.length = f.dn.length) (hg : w.grownBy w' (Value.slice f.da f.dn.length f.dc).ownBlock)
    (hr : w'.ownsRow base 4 1 (.slice f.da f.dn.length f.dc) f.dn.length (boolsV dn)) : FrM.Own w' base { f with dn := dn } :=
  ⟨own_kept_ty h.ps h.dn (by decide) hg, fun p hp => (h.pse p hp).kept_ty h.dn (by decide) (by decide) (by decide) (by decide) hg, own_kept_ty h.pl h.dn (by decide) hg, by show World.ownsRow w' base _ 1 (.slice f.da dn.length f.dc) dn.length _; rw [hl]; exact hr,
    own_kept_ty h.hv h.dn (by decide) hg, fun p hp => (h.hve p hp).kept_ty h.dn (by decide) (by decide) (by decide) (by decide) hg, own_kept_ty h.gs h.dn (by decide) hg, own_kept_ty h.wk h.dn (by decide) hg, own_kept_ty h.nt h.dn (by decide) hg,
    fun m hm => (h.nte m hm).kept_ty h.dn (by decide) (by decide) (by decide) (by decide) hg, h.apart⟩
theorem FrM.Own.have_ (h : f.Own w base) {hv : List PtM} (hl : hv.length = f.hv.length) (hg : w.grownBy w' (Value.slice f.ha f.hv.length f.hc).ownBlock)
    (hr : w'.ownsRow base 44 2 (.slice f.ha f.hv.length f.hc) f.hv.length (ptsV hv)) (he : ∀ p ∈ hv, p.Own w base) : FrM.Own w' base { f with hv := hv } :=
  ⟨h.ps.kept hg h.apart, fun p hp => (h.pse p hp).kept_ty h.hv (by decide) (by decide) (by decide) (by decide) hg, own_kept_ty h.pl h.hv (by decide) hg, own_kept_ty h.dn h.hv (by decide) hg,
    by show World.ownsRow w' base _ 2 (.slice f.ha hv.length f.hc) hv.length _; rw [hl]; exact hr, fun p hp => (he p hp).kept_ty h.hv (by decide) (by decide) (by decide) (by decide) hg, own_kept_ty h.gs h.hv (by decide) hg, own_kept_ty h.wk h.hv (by decide) hg, own_kept_ty h.nt h.hv (by decide) hg,
    fun m hm => (h.nte m hm).kept_ty h.hv (by decide) (by decide) (by decide) (by decide) hg, by show (Value.slice f.pa f.ps.length f.pc).ownBlock = none ∨ (Value.slice f.pa f.ps.length f.pc).ownBlock ≠ (Value.slice f.ha hv.length f.hc).ownBlock; rw [hl]; exact h.apart⟩
/-- Where it has no messages: a row of messages is written. -/
theorem FrM.Own.msgs {base' size' n' : Nat} {v' : Value} {xs' : List Value} (h : f.Own w base) (h0 : f.nt = []) (h1 : f.na = none) (h2 : f.nc = 0) (hm : w.ownsRow base' 50 size' v' n' xs') (hg : w.grownBy w' v'.ownBlock) : f.Own w' base :=
  ⟨own_kept_ty h.ps hm (by decide) hg, fun p hp => (h.pse p hp).kept_ty hm (by decide) (by decide) (by decide) (by decide) hg, own_kept_ty h.pl hm (by decide) hg, own_kept_ty h.dn hm (by decide) hg,
    own_kept_ty h.hv hm (by decide) hg, fun p hp => (h.hve p hp).kept_ty hm (by decide) (by decide) (by decide) (by decide) hg, own_kept_ty h.gs hm (by decide) hg, own_kept_ty h.wk hm (by decide) hg, by rw [h0, h1, h2]; exact World.ownsRow_nil _ _ _ _, fun m hm => (by rw [h0] at hm; cases hm), h.apart⟩
/-- A store into a box of another type. -/
theorem FrM.Own.box {g j : Nat} {cs : Array Value} (h : f.Own w base) (hb : Blk w g 29 cs) (u : Value) : f.Own (w.setCell ⟨g, j, none⟩ u) base :=
  ⟨own_setCell h.ps (own_blk_ne h.ps hb (by decide)) u, fun p hp => (h.pse p hp).blk hb (by decide) (by decide) (by decide) (by decide) u, own_setCell h.pl (own_blk_ne h.pl hb (by decide)) u, own_setCell h.dn (own_blk_ne h.dn hb (by decide)) u,
    own_setCell h.hv (own_blk_ne h.hv hb (by decide)) u, fun p hp => (h.hve p hp).blk hb (by decide) (by decide) (by decide) (by decide) u, own_setCell h.gs (own_blk_ne h.gs hb (by decide)) u, own_setCell h.wk (own_blk_ne h.wk hb (by decide)) u,
    own_setCell h.nt (own_blk_ne h.nt hb (by decide)) u, fun m hm => (h.nte m hm).blk hb (by decide) (by decide) (by decide) (by decide) u, h.apart⟩
theorem FrM.Own.alloc (h : f.Own w base) (o : Obj) : f.Own (w.alloc o) base := h.all (by (repeat' (first | exact Below.refl _ _ | assumption | refine Below.setCell ?_ (by first | omega | exact Below.size (by assumption) | (simp; done) | (simp; omega)) _ | refine Below.alloc ?_ (by first | omega | exact Below.size (by assumption) | (simp; done) | (simp; omega)) _ | refine Below.drew ?_ | refine below_drewN ?_ _)))
theorem FrM.Own.mono {base' : Nat} (h : f.Own w base) (hb : base' ≤ base) : f.Own w base' :=
  ⟨h.ps.mono hb, fun p hp => (h.pse p hp).mono hb, h.pl.mono hb, h.dn.mono hb, h.hv.mono hb, fun p hp => (h.hve p hp).mono hb, h.gs.mono hb, h.wk.mono hb, h.nt.mono hb, fun m hm => (h.nte m hm).mono hb, h.apart⟩
end

/-- A farm in a box of the call's own. -/
structure FB (w : World) (base g : Nat) (f : FrM) : Prop where
  blk : Blk w g 29 #[.slice f.pa f.ps.length f.pc, .slice f.la f.pl.length f.lc, .int .i64 f.now, .slice f.da f.dn.length f.dc, .slice f.ha f.hv.length f.hc, .slice f.ga f.gs.length f.gc, .slice f.wa f.wk.length f.wc, .slice f.na f.nt.length f.nc]
  own : f.Own w base
  lo : base ≤ g
theorem FB.all {w w' : World} {base g : Nat} {f : FrM} (h : FB w base g f) (hb : Below w.heap.size w w') : FB w' base g f := ⟨h.blk.all hb, h.own.all hb, h.lo⟩
end Go.Proofs.Ytkfmkemjoddinaa
