/- BC: texts that belong together. -/
import Derived.Deep.Onto
import Derived.Test.YtmlomnhjbmocfaaDoorBA
set_option linter.all false
/- Parts in memory of a call's own. No program in sight but its types' numbers. -/
namespace Go.Proofs.YtmlomnhjbmocfaaDoor
open Go.RowKit

theorem own_form {w : World} {base size n : Nat} {e : TypeId} {v : Value} {xs : List Value} (h : w.ownsRow base e size v n xs) : ∃ A c, v = .slice A n c ∧ n ≤ c ∧ c ≤ 9223372036854775807 := by
  rcases h.2 with ⟨rfl, rfl⟩ | ⟨g, cap, cur, rfl, _, _, hc, hm, _⟩
  · exact ⟨none, 0, rfl, Nat.le_refl _, by omega⟩
  · exact ⟨_, cap, rfl, hc, by unfold maxLen at hm; exact hm⟩
theorem own_setCell {w : World} {base size n : Nat} {e : TypeId} {v : Value} {xs : List Value} (h : w.ownsRow base e size v n xs) {p : Addr} (hp : v.ownBlock ≠ some p.block) (u : Value) : (w.setCell p u).ownsRow base e size v n xs :=
  h.kept (row := some p.block) ⟨rfl, rfl, rfl, by simp [World.setCell], fun i _ hne => Below.heap_setCell w p u i (fun e => hne (by rw [e]))⟩ (.inr hp)
theorem own_all {w w' : World} {base size n : Nat} {e : TypeId} {v : Value} {xs : List Value} (h : w.ownsRow base e size v n xs) (hb : Below w.heap.size w w') : w'.ownsRow base e size v n xs := own_below h hb

theorem own_ne_own {w : World} {base size n base' size' n' : Nat} {e e' : TypeId} {v v' : Value} {xs xs' : List Value} (h : w.ownsRow base e size v n xs) (h' : w.ownsRow base' e' size' v' n' xs') (hne : e ≠ e') {g : Nat} (hg : v.ownBlock = some g) : v'.ownBlock ≠ some g := by
  rcases h.2 with ⟨rfl, _⟩ | ⟨g', cap, cur, rfl, _, hh, _⟩
  · simp [Value.ownBlock] at hg
  · have : g' = g := by simpa [Value.ownBlock] using hg
    subst this
    exact own_blk_ne h' (show Blk w g' e cur from hh) (Ne.symm hne)
structure FgM.Own (w : World) (base : Nat) (x : FgM) : Prop where
  by_ : w.ownsRow base 5 1 x.byV x.f.bs.length (bytesV x.f.bs)
  re : w.ownsRow base 93 5 x.reV x.f.rs.length (relsV x.f.rs)
theorem FgM.Own.set_ {w : World} {base g j : Nat} {x : FgM} (h : x.Own w base) (h1 : x.byV.ownBlock ≠ some g) (h2 : x.reV.ownBlock ≠ some g) (u : Value) : x.Own (w.setCell ⟨g, j, none⟩ u) base := ⟨own_setCell h.by_ h1 u, own_setCell h.re h2 u⟩
/-- No two have their places in one block. -/
def ApartR (l : List FgM) : Prop := l.Pairwise fun x y => ∀ g, x.reV.ownBlock = some g → y.reV.ownBlock ≠ some g
structure PtM.Own (w : World) (base : Nat) (p : PtM) : Prop where
  fr : w.ownsRow base 63 6 p.frV p.frs.length (fgsV p.frs)
  df : w.ownsRow base 70 6 p.dfV p.dfs.length (dfsV p.dfs)
  each : ∀ x ∈ p.frs, x.Own w base
  apart : ApartR p.frs

section
variable {w w' : World} {base : Nat} {x : FgM} {p : PtM}
theorem FgM.Own.all (h : x.Own w base) (hb : Below w.heap.size w w') : x.Own w' base := ⟨own_all h.by_ hb, own_all h.re hb⟩
theorem PtM.Own.all (h : p.Own w base) (hb : Below w.heap.size w w') : p.Own w' base := ⟨own_all h.fr hb, own_all h.df hb, fun x hx => (h.each x hx).all hb, h.apart⟩
theorem FgM.Own.good (h : x.Own w base) : x.Good w w.heap.size := by
  obtain ⟨A, c, e1, h1, h2⟩ := own_form h.by_
  obtain ⟨A', c', e1', h1', h2'⟩ := own_form h.re
  exact ⟨Reads.of_own h.by_, Reads.of_own h.re, by omega, by omega⟩
theorem PtM.Own.at_ (h : p.Own w base) : p.At w w.heap.size := by
  obtain ⟨A, c, e1, h1, h2⟩ := own_form h.fr
  obtain ⟨A', c', e1', h1', h2'⟩ := own_form h.df
  exact ⟨Reads.of_own h.fr, fun x hx => (h.each x hx).good, Reads.of_own h.df, by omega, by omega⟩
end

/-- What a right part's sizes are. -/
structure PtM.Small (p : PtM) : Prop where
  fr : p.frs.length ≤ 60
  df : p.dfs.length ≤ 60
  by_ : ∀ x ∈ p.frs, x.f.bs.length ≤ 64
  re : ∀ x ∈ p.frs, x.f.rs.length ≤ 8
theorem small_of {p : PtM} (h : ckPart p.er = 0) : p.Small := by
  by_cases h1 : 60 < p.er.frs.length ∨ 60 < p.er.dfs.length
  · rw [ckPart_1 h1] at h; cases h
  · have hf : ∀ x ∈ p.frs, ¬ (64 < x.f.bs.length ∨ 8 < x.f.rs.length) := fun x hx hn => by
      by_cases h2 : firstBad (p.er.frs.map (ckFrag p.er.frs.length)) = 0
      · have := firstBad_zero.1 h2 (ckFrag p.er.frs.length x.f) (List.mem_map_of_mem (by simp only [PtM.er]; exact List.mem_map_of_mem hx))
        unfold ckFrag at this
        split at this
        · cases this
        · split at this
          · cases this
          · first | (rw [if_pos hn] at this; cases this) | cases this
      · rw [ckPart_2 h1 h2] at h; exact h2 h
    have l1 : p.er.frs.length = p.frs.length := by simp [PtM.er]
    have l2 : p.er.dfs.length = p.dfs.length := by simp [PtM.er]
    exact ⟨by omega, by omega, fun x hx => by have := hf x hx; omega, fun x hx => by have := hf x hx; omega⟩

theorem fgsV_append (l m : List FgM) : fgsV (l ++ m) = fgsV l ++ fgsV m := by unfold fgsV; rw [List.flatMap_append]
theorem fgsV_len (l : List FgM) : (fgsV l).length = l.length * 6 := flatMap_len FgM.cells_len l
theorem fgsV_set {l r : List FgM} {x y : FgM} (h1 : y.f.sect = x.f.sect) (h2 : y.f.align = x.f.align) (h3 : y.f.group = x.f.group) (h4 : y.f.size = x.f.size) :
    ((fgsV (l ++ x :: r)).set (l.length * 6 + 3) y.byV).set (l.length * 6 + 5) y.reV = fgsV ((l ++ [y]) ++ r) := by
  rw [fgsV_append, fgsV_append, fgsV_append]
  have e : fgsV (x :: r) = x.cells ++ fgsV r := by unfold fgsV; rw [List.flatMap_cons]
  have e' : fgsV [y] = y.cells := by unfold fgsV; simp
  rw [e, e', List.append_assoc, List.set_append_right _ _ (by rw [fgsV_len]; omega), List.set_append_right _ _ (by rw [fgsV_len]; omega), fgsV_len, Nat.add_sub_cancel_left, Nat.add_sub_cancel_left]
  congr 1
  unfold FgM.cells
  rw [h1, h2, h3, h4]
  rfl
end Go.Proofs.YtmlomnhjbmocfaaDoor

/- What part.drop holds while it works: memory, step by step. No program in sight but its types' numbers. -/
namespace Go.Proofs.YtmlomnhjbmocfaaDoor
open Go.RowKit

theorem intsV_set (T : List Int) (i : Nat) (v : Int) : (intsV T).toArray.setIfInBounds i (.int .i64 v) = (intsV (T.set i v)).toArray := by
  unfold intsV
  rw [List.map_set]
  simp [intV]
theorem own_kept {w w' : World} {base size n : Nat} {e : TypeId} {v : Value} {xs : List Value} {row : Option Nat} (h : w.ownsRow base e size v n xs) (hg : w.grownBy w' row) (hne : v.ownBlock = none ∨ v.ownBlock ≠ row) : w'.ownsRow base e size v n xs := h.kept hg hne
theorem own_row_ne {w : World} {base size n base' size' n' : Nat} {e e' : TypeId} {v v' : Value} {xs xs' : List Value} (h : w.ownsRow base e size v n xs) (h' : w.ownsRow base' e' size' v' n' xs') (hne : e ≠ e') : v.ownBlock = none ∨ v.ownBlock ≠ v'.ownBlock := by
  rcases hb : v.ownBlock with _ | g
  · exact .inl rfl
  · exact .inr fun e => own_ne_own h h' hne hb e.symm
theorem FgM.Own.alloc {w : World} {base : Nat} {x : FgM} (h : x.Own w base) (o : Obj) : x.Own (w.alloc o) base := ⟨h.by_.alloc o, h.re.alloc o⟩
theorem FgM.Own.blk {w : World} {base g j : Nat} {t : TypeId} {cs : Array Value} {x : FgM} (h : x.Own w base) (hb : Blk w g t cs) (h1 : 5 ≠ t) (h2 : 93 ≠ t) (u : Value) : x.Own (w.setCell ⟨g, j, none⟩ u) base :=
  h.set_ (own_blk_ne h.by_ hb h1) (own_blk_ne h.re hb h2) u
theorem FgM.Own.row {w w' : World} {base base' size n : Nat} {t : TypeId} {v : Value} {xs : List Value} {x : FgM} (h : x.Own w base) (hz : w.ownsRow base' t size v n xs) (hg : w.grownBy w' v.ownBlock) (h1 : 5 ≠ t) (h2 : 93 ≠ t) : x.Own w' base :=
  ⟨own_kept h.by_ hg (own_row_ne h.by_ hz h1), own_kept h.re hg (own_row_ne h.re hz h2)⟩

/-- While fragments are chosen. -/
structure DA (wr : World) (base gR gT gO B1 : Nat) (P : Array Value) (q : PtM) (z : Value) (kept : List FgM) (T : List Int) : Prop where
  hP : Blk wr base 25 P
  hR : Blk wr gR 25 #[.slice none 0 0, .slice none 0 0]
  hT : Blk wr gT 3 (intsV T).toArray
  hO : Blk wr gO 25 #[z, .slice none 0 0]
  hz : wr.ownsRow B1 63 6 z kept.length (fgsV kept)
  hq : wr.ownsRow base 63 6 q.frV q.frs.length (fgsV q.frs)
  lt : ∀ g, q.frV.ownBlock = some g → g < B1
  each : ∀ x ∈ q.frs, x.Own wr base
  e1 : gR = base + 1
  e2 : gT = base + 2
  e3 : gO = base + 3
  b1 : base + 4 ≤ B1
  b2 : B1 ≤ wr.heap.size

section
variable {wr : World} {base gR gT gO B1 : Nat} {P : Array Value} {q : PtM} {z : Value} {kept : List FgM} {T : List Int}
theorem DA.alloc (h : DA wr base gR gT gO B1 P q z kept T) (o : Obj) : DA (wr.alloc o) base gR gT gO B1 P q z kept T :=
  ⟨h.hP.alloc o, h.hR.alloc o, h.hT.alloc o, h.hO.alloc o, h.hz.alloc o, h.hq.alloc o, h.lt, fun x hx => (h.each x hx).alloc o, h.e1, h.e2, h.e3, h.b1, by have := h.b2; simp; omega⟩
theorem DA.setT (h : DA wr base gR gT gO B1 P q z kept T) (i : Nat) (v : Int) : DA (wr.setCell ⟨gT, i, none⟩ (.int .i64 v)) base gR gT gO B1 P q z kept (T.set i v) :=
  ⟨h.hP.far (by have := h.e1; have := h.e2; have := h.e3; simp only; omega) _, h.hR.far (by have := h.e1; have := h.e2; have := h.e3; simp only; omega) _, by rw [← intsV_set]; exact h.hT.set_ i _, h.hO.far (by have := h.e1; have := h.e2; have := h.e3; simp only; omega) _, own_setCell h.hz (own_blk_ne h.hz h.hT (by decide)) _, own_setCell h.hq (own_blk_ne h.hq h.hT (by decide)) _,
    h.lt, fun x hx => (h.each x hx).blk h.hT (by decide) (by decide) _, h.e1, h.e2, h.e3, h.b1, by simpa [World.setCell] using h.b2⟩
theorem DA.push (h : DA wr base gR gT gO B1 P q z kept T) {x : FgM} {w5 : World} {v' : Value} (hg : wr.grownBy w5 z.ownBlock) (ho : w5.ownsRow B1 63 6 v' (kept.length + 1) (fgsV kept ++ x.cells)) :
    DA (w5.setCell ⟨gO, 0, none⟩ v') base gR gT gO B1 P q v' (kept ++ [x]) T := by
  have hO := h.hO.grown hg (own_blk_ne h.hz h.hO (by decide)).symm
  have hqn : q.frV.ownBlock = none ∨ q.frV.ownBlock ≠ z.ownBlock := by
    rcases hb : q.frV.ownBlock with _ | g
    · exact .inl rfl
    · refine .inr fun e => ?_
      have h1 := h.lt g hb
      have h2 := (h.hz.lt g e.symm).1
      omega
  have hq := own_kept h.hq hg hqn
  have ho' : w5.ownsRow B1 63 6 v' (kept ++ [x]).length (fgsV (kept ++ [x])) := by
    rw [fgsV_append, List.length_append]
    simpa [fgsV] using ho
  exact ⟨(h.hP.grown hg (own_blk_ne h.hz h.hP (by decide)).symm).far (by have := h.e1; have := h.e2; have := h.e3; simp only; omega) _, (h.hR.grown hg (own_blk_ne h.hz h.hR (by decide)).symm).far (by have := h.e1; have := h.e2; have := h.e3; simp only; omega) _, (h.hT.grown hg (own_blk_ne h.hz h.hT (by decide)).symm).far (by have := h.e1; have := h.e2; have := h.e3; simp only; omega) _,
    hO.set_ 0 _, own_setCell ho' (own_blk_ne ho' hO (by decide)) _, own_setCell hq (own_blk_ne hq hO (by decide)) _, h.lt,
    fun y hy => ((h.each y hy).row h.hz hg (by decide) (by decide)).blk hO (by decide) (by decide) _, h.e1, h.e2, h.e3, h.b1, by have h1 := h.b2; have h2 := hg.size; simp [World.setCell]; omega⟩
theorem DA.hO5 (h : DA wr base gR gT gO B1 P q z kept T) {w5 : World} (hg : wr.grownBy w5 z.ownBlock) : Blk w5 gO 25 #[z, .slice none 0 0] := h.hO.grown hg (own_blk_ne h.hz h.hO (by decide)).symm
theorem DA.below (h : DA wr base gR gT gO B1 P q z kept T) {w w5 : World} {v' : Value} (hb : Below base w wr) (hg : wr.grownBy w5 z.ownBlock) : Below base w (w5.setCell ⟨gO, 0, none⟩ v') := by
  have h1 := h.b1
  have h2 := h.b2
  exact (hb.grown hg (by omega) (fun g hg' => by have := (h.hz.lt g hg').1; omega)).setCell (by have := h.e3; simp only; omega) _
end

/-- What stays of the first k, and where they go. -/
def keptUp (l : List ByteArray) (frs : List FgM) (k : Nat) : List FgM := (frs.take k).filter fun x => !x.f.gone l
def toUp (l : List ByteArray) (frs : List FgM) (k : Nat) : List Int := toFrom l 0 ((frs.take k).map FgM.f) ++ List.replicate (frs.length - k) 0
theorem keptUp_len (l : List ByteArray) (frs : List FgM) (k : Nat) : (keptUp l frs k).length = (keepF l ((frs.take k).map FgM.f)).length := by
  unfold keptUp keepF
  rw [List.filter_map, List.length_map]; rfl
theorem keptUp_le (l : List ByteArray) (frs : List FgM) (k : Nat) : (keptUp l frs k).length ≤ frs.length := by
  refine Nat.le_trans (List.length_filter_le ..) ?_
  rw [List.length_take]; omega
theorem toUp_len (l : List ByteArray) (frs : List FgM) {k : Nat} (h : k ≤ frs.length) : (toUp l frs k).length = frs.length := by
  unfold toUp
  rw [List.length_append, toFrom_len, List.length_map, List.length_take, List.length_replicate]; omega
theorem toUp_zero (l : List ByteArray) (frs : List FgM) : toUp l frs 0 = List.replicate frs.length 0 := by simp [toUp, toFrom]
theorem toUp_all (l : List ByteArray) (frs : List FgM) : toUp l frs frs.length = toOf l (frs.map FgM.f) := by unfold toUp toOf; simp
theorem toUp_set {l : List ByteArray} {frs : List FgM} {k : Nat} {x : FgM} (hx : frs[k]? = some x) (v : Int) (hv : v = if x.f.gone l then -1 else ((keptUp l frs k).length : Int)) : (toUp l frs k).set k v = toUp l frs (k + 1) := by
  obtain ⟨hk, _⟩ := List.getElem?_eq_some_iff.1 hx
  unfold toUp
  have hl : (toFrom l 0 ((frs.take k).map FgM.f)).length = k := by rw [toFrom_len, List.length_map, List.length_take]; omega
  have e : frs.length - k = (frs.length - (k + 1)) + 1 := by omega
  rw [List.set_append_right _ _ (by omega), hl, Nat.sub_self, e, List.replicate_succ, List.set_cons_zero, List.take_add_one, hx, List.map_append, toFrom_append, List.append_assoc]
  congr 1
  simp only [Option.toList_some, List.map_cons, List.map_nil, toFrom, Nat.zero_add]
  rw [hv, keptUp_len]
  split <;> simp
theorem keptUp_out {l : List ByteArray} {frs : List FgM} {k : Nat} {x : FgM} (hx : frs[k]? = some x) (hg : x.f.gone l = true) : keptUp l frs (k + 1) = keptUp l frs k := by
  unfold keptUp
  rw [List.take_add_one, hx, List.filter_append]; simp [hg]
theorem keptUp_in {l : List ByteArray} {frs : List FgM} {k : Nat} {x : FgM} (hx : frs[k]? = some x) (hg : x.f.gone l = false) : keptUp l frs (k + 1) = keptUp l frs k ++ [x] := by
  unfold keptUp
  rw [List.take_add_one, hx, List.filter_append]; simp [hg]
theorem gone_no {l : List ByteArray} {f : Frg} (h : f.group.size = 0 ∨ f.group ∉ l) : f.gone l = false := by
  unfold Frg.gone; exact decide_eq_false fun hn => h.elim (fun e => hn.1 e) (fun e => e hn.2)
theorem gone_yes {l : List ByteArray} {f : Frg} (h : f.group.size ≠ 0) (hm : f.group ∈ l) : f.gone l = true := by
  unfold Frg.gone; exact decide_eq_true ⟨h, hm⟩

def FgM.mapR (g : Rel → Rel) (x : FgM) : FgM := { x with f := x.f.mapR g }
def FgM.withR (x : FgM) (rs : List Rel) : FgM := { x with f := { x.f with rs := rs } }

/-- While places are turned, and definitions chosen. -/
structure DB (wr : World) (base gR gT gO : Nat) (P : Array Value) (z y : Value) (K : List FgM) (D : List Df) (T : List Int) : Prop where
  hP : Blk wr base 25 P
  hR : Blk wr gR 25 #[.slice none 0 0, .slice none 0 0]
  hT : Blk wr gT 3 (intsV T).toArray
  hO : Blk wr gO 25 #[z, y]
  hz : wr.ownsRow base 63 6 z K.length (fgsV K)
  hy : wr.ownsRow base 70 6 y D.length (dfsV D)
  each : ∀ x ∈ K, x.Own wr base
  apart : ApartR K
  e1 : gR = base + 1
  e2 : gT = base + 2
  e3 : gO = base + 3
  b2 : base + 4 ≤ wr.heap.size

section
variable {wr : World} {base gR gT gO : Nat} {P : Array Value} {z y : Value} {K : List FgM} {D : List Df} {T : List Int}
theorem DA.to_db {B1 : Nat} {q : PtM} {kept : List FgM} (h : DA wr base gR gT gO B1 P q z kept T) (hk : ∀ x ∈ kept, x ∈ q.frs) (ha : ApartR kept) : DB wr base gR gT gO P z (.slice none 0 0) kept [] T :=
  ⟨h.hP, h.hR, h.hT, h.hO, h.hz.mono (by have := h.b1; omega), World.ownsRow_nil _ _ _ _, fun x hx => h.each x (hk x hx), ha, h.e1, h.e2, h.e3, by have h1 := h.b1; have h2 := h.b2; omega⟩
theorem DB.alloc (h : DB wr base gR gT gO P z y K D T) (o : Obj) : DB (wr.alloc o) base gR gT gO P z y K D T :=
  ⟨h.hP.alloc o, h.hR.alloc o, h.hT.alloc o, h.hO.alloc o, h.hz.alloc o, h.hy.alloc o, fun x hx => (h.each x hx).alloc o, h.apart, h.e1, h.e2, h.e3, by have := h.b2; simp; omega⟩
theorem DB.drew (h : DB wr base gR gT gO P z y K D T) : DB wr.drew base gR gT gO P z y K D T :=
  ⟨h.hP.drew, h.hR.drew, h.hT.drew, h.hO.drew, h.hz.drew, h.hy.drew, fun x hx => ⟨(h.each x hx).by_.drew, (h.each x hx).re.drew⟩, h.apart, h.e1, h.e2, h.e3, h.b2⟩
theorem relsV_append (l m : List Rel) : relsV (l ++ m) = relsV l ++ relsV m := by unfold relsV; rw [List.flatMap_append]
theorem relsV_len (l : List Rel) : (relsV l).length = l.length * 5 := flatMap_len Rel.cells_len l
theorem relsV_set (l r : List Rel) (a : Rel) (v : Int) : (relsV (l ++ a :: r)).set (l.length * 5 + 3) (.int .i64 v) = relsV (l ++ { a with frag := v } :: r) := by
  have e : ∀ b : Rel, relsV (b :: r) = b.cells ++ relsV r := fun b => by unfold relsV; rw [List.flatMap_cons]
  rw [relsV_append, relsV_append, e, e, List.set_append_right _ _ (by rw [relsV_len]; omega), relsV_len, Nat.add_sub_cancel_left]
  rfl
theorem fgsV_withR (K1 K2 : List FgM) (x : FgM) {rs : List Rel} (h : rs.length = x.f.rs.length) : fgsV (K1 ++ x.withR rs :: K2) = fgsV (K1 ++ x :: K2) := by
  have e : (x.withR rs).cells = x.cells := by
    unfold FgM.withR FgM.cells FgM.byV FgM.reV
    simp [h]
  rw [fgsV_append, fgsV_append]
  unfold fgsV
  rw [List.flatMap_cons, List.flatMap_cons, e]
theorem apart_mid {K1 K2 : List FgM} {x : FgM} (h : ApartR (K1 ++ x :: K2)) {g : Nat} (hg : x.reV.ownBlock = some g) : ∀ y, y ∈ K1 ∨ y ∈ K2 → y.reV.ownBlock ≠ some g := by
  obtain ⟨h1, h2, h3⟩ := List.pairwise_append.1 h
  intro y hy
  rcases hy with hy | hy
  · intro e
    exact h3 y hy x (by simp) g e hg
  · exact (List.pairwise_cons.1 h2).1 y hy g hg
theorem apart_with {K1 K2 : List FgM} {x x' : FgM} (h : ApartR (K1 ++ x :: K2)) (he : x'.reV = x.reV) : ApartR (K1 ++ x' :: K2) := by
  obtain ⟨h1, h2, h3⟩ := List.pairwise_append.1 h
  obtain ⟨h4, h5⟩ := List.pairwise_cons.1 h2
  refine List.pairwise_append.2 ⟨h1, List.pairwise_cons.2 ⟨fun y hy g hg => h4 y hy g (by rw [← he]; exact hg), h5⟩, fun a ha b hb g e1 e2 => ?_⟩
  rcases List.mem_cons.1 hb with rfl | hb
  · exact h3 a ha x (by simp) g e1 (by rw [← he]; exact e2)
  · exact h3 a ha b (List.mem_cons_of_mem _ hb) g e1 e2
/-- One place is turned. -/
theorem each_setR {wr : World} {base g : Nat} {K1 K2 : List FgM} {x : FgM} {R1 R2 : List Rel} {r : Rel} (each : ∀ y ∈ K1 ++ x :: K2, y.Own wr base) (apart : ApartR (K1 ++ x :: K2)) (hr : x.f.rs = R1 ++ r :: R2) (hg : x.ra = some ⟨g, 0, none⟩) (v : Int) :
    ∀ y ∈ K1 ++ x.withR (R1 ++ { r with frag := v } :: R2) :: K2, y.Own (wr.setCell ⟨g, R1.length * 5 + 3, none⟩ (.int .i64 v)) base := by
  have hx := each x (by simp)
  have hv : x.reV = .slice (some ⟨g, 0, none⟩) x.f.rs.length x.rc := by unfold FgM.reV; rw [hg]
  have hb : x.reV.ownBlock = some g := by rw [hv]; rfl
  have hlen : (R1 ++ { r with frag := v } :: R2).length = x.f.rs.length := by rw [hr]; simp
  intro y hy
  rcases List.mem_append.1 hy with hy | hy
  · have h1 := each y (by simp [hy])
    exact h1.set_ (own_ne_own hx.re h1.by_ (by decide) hb) (apart_mid apart hb y (.inl hy)) _
  · rcases List.mem_cons.1 hy with rfl | hy
    · refine ⟨own_setCell hx.by_ (own_ne_own hx.re hx.by_ (by decide) hb) _, ?_⟩
      have h2 := hx.re
      rw [hv, hr] at h2
      have h3 := (h2.stored (R1.length * 5 + 3) (.int .i64 v)).1
      rw [relsV_set] at h3
      show World.ownsRow _ _ _ _ (.slice x.ra (R1 ++ { r with frag := v } :: R2).length x.rc) (R1 ++ { r with frag := v } :: R2).length (relsV (R1 ++ { r with frag := v } :: R2))
      rw [hg]
      simpa using h3
    · have h1 := each y (by simp [hy])
      exact h1.set_ (own_ne_own hx.re h1.by_ (by decide) hb) (apart_mid apart hb y (.inr hy)) _
theorem DB.setR {K1 K2 : List FgM} {x : FgM} (h : DB wr base gR gT gO P z y (K1 ++ x :: K2) D T) {g : Nat} {R1 R2 : List Rel} {r : Rel} (hr : x.f.rs = R1 ++ r :: R2) (hg : x.ra = some ⟨g, 0, none⟩) (v : Int) :
    DB (wr.setCell ⟨g, R1.length * 5 + 3, none⟩ (.int .i64 v)) base gR gT gO P z y (K1 ++ x.withR (R1 ++ { r with frag := v } :: R2) :: K2) D T := by
  have hx := h.each x (by simp)
  have hb : x.reV.ownBlock = some g := by unfold FgM.reV; rw [hg]; rfl
  have hlen : (R1 ++ { r with frag := v } :: R2).length = x.f.rs.length := by rw [hr]; simp
  have n0 : ∀ {c : Nat} {t : TypeId} {cs : Array Value}, Blk wr c t cs → 93 ≠ t → c ≠ g := fun hc ht e => own_blk_ne hx.re hc ht (by rw [hb, e])
  refine ⟨h.hP.far (n0 h.hP (by decide)) _, h.hR.far (n0 h.hR (by decide)) _, h.hT.far (n0 h.hT (by decide)) _, h.hO.far (n0 h.hO (by decide)) _, ?_, own_setCell h.hy (own_ne_own hx.re h.hy (by decide) hb) _, each_setR h.each h.apart hr hg v, ?_, h.e1, h.e2, h.e3, by simpa [World.setCell] using h.b2⟩
  · rw [fgsV_withR K1 K2 x hlen]
    have := own_setCell h.hz (own_ne_own hx.re h.hz (by decide) hb) (.int .i64 v) (p := ⟨g, R1.length * 5 + 3, none⟩)
    simpa using this
  · refine apart_with h.apart ?_
    unfold FgM.withR FgM.reV
    simp [hlen]
theorem dfsV_append (l m : List Df) : dfsV (l ++ m) = dfsV l ++ dfsV m := by unfold dfsV; rw [List.flatMap_append]
theorem DB.push (h : DB wr base gR gT gO P z y K D T) {d : Df} {w5 : World} {v' : Value} (hg : wr.grownBy w5 y.ownBlock) (ho : w5.ownsRow base 70 6 v' (D.length + 1) (dfsV D ++ d.cells)) :
    DB (w5.setCell ⟨gO, 1, none⟩ v') base gR gT gO P z v' K (D ++ [d]) T := by
  have hO := h.hO.grown hg (own_blk_ne h.hy h.hO (by decide)).symm
  have hz := own_kept h.hz hg (own_row_ne h.hz h.hy (by decide))
  have ho' : w5.ownsRow base 70 6 v' (D ++ [d]).length (dfsV (D ++ [d])) := by
    rw [dfsV_append, List.length_append]
    simpa [dfsV] using ho
  exact ⟨(h.hP.grown hg (own_blk_ne h.hy h.hP (by decide)).symm).far (by have := h.e1; have := h.e2; have := h.e3; simp only; omega) _, (h.hR.grown hg (own_blk_ne h.hy h.hR (by decide)).symm).far (by have := h.e1; have := h.e2; have := h.e3; simp only; omega) _, (h.hT.grown hg (own_blk_ne h.hy h.hT (by decide)).symm).far (by have := h.e1; have := h.e2; have := h.e3; simp only; omega) _,
    hO.set_ 1 _, own_setCell hz (own_blk_ne hz hO (by decide)) _, own_setCell ho' (own_blk_ne ho' hO (by decide)) _,
    fun x hx => ((h.each x hx).row h.hy hg (by decide) (by decide)).blk hO (by decide) (by decide) _, h.apart, h.e1, h.e2, h.e3, by have h1 := h.b2; have h2 := hg.size; simp [World.setCell]; omega⟩
theorem DB.box (h : DB wr base gR gT gO P z y K D T) {g j : Nat} {cs : Array Value} (hb : Blk wr g 70 cs) (hg : base + 4 ≤ g) (hy : y.ownBlock ≠ some g) (u : Value) : DB (wr.setCell ⟨g, j, none⟩ u) base gR gT gO P z y K D T :=
  ⟨h.hP.far (by simp only; omega) _, h.hR.far (by have := h.e1; simp only; omega) _, h.hT.far (by have := h.e2; simp only; omega) _, h.hO.far (by have := h.e3; simp only; omega) _,
    own_setCell h.hz (own_blk_ne h.hz hb (by decide)) _, own_setCell h.hy hy _, fun x hx => (h.each x hx).blk hb (by decide) (by decide) _, h.apart, h.e1, h.e2, h.e3, by simpa [World.setCell] using h.b2⟩
theorem DB.hO5 (h : DB wr base gR gT gO P z y K D T) {w5 : World} (hg : wr.grownBy w5 y.ownBlock) : Blk w5 gO 25 #[z, y] := h.hO.grown hg (own_blk_ne h.hy h.hO (by decide)).symm
theorem DB.below (h : DB wr base gR gT gO P z y K D T) {w w5 : World} {v' : Value} (hb : Below base w wr) (hg : wr.grownBy w5 y.ownBlock) : Below base w (w5.setCell ⟨gO, 1, none⟩ v') := by
  have h2 := h.b2
  exact (hb.grown hg (by omega) (fun g hg' => (h.hy.lt g hg').1)).setCell (by have := h.e3; simp only; omega) _
end
end Go.Proofs.YtmlomnhjbmocfaaDoor

/- Parts of a call's own: kept where other blocks are written; made of whole blocks. No program in sight but its types' numbers. -/
namespace Go.Proofs.YtmlomnhjbmocfaaDoor
open Go.RowKit

theorem own_of_blk {w : World} {g : Nat} {t : TypeId} {cs : Array Value} (h : Blk w g t cs) {base size n : Nat} (hb : base ≤ g) (hs : cs.size = n * size) (hm : n ≤ 9223372036854775807) : w.ownsRow base t size (.slice (some ⟨g, 0, none⟩) n n) n cs.toList :=
  ⟨by simpa using hs, .inr ⟨g, n, cs, rfl, hb, h, Nat.le_refl _, by unfold maxLen; exact hm, hs, by rw [← hs]; exact List.take_of_length_le (by simp)⟩⟩
theorem PtM.Own.blk {w : World} {base g j : Nat} {t : TypeId} {cs : Array Value} {p : PtM} (h : p.Own w base) (hb : Blk w g t cs) (h1 : 63 ≠ t) (h2 : 70 ≠ t) (h3 : 5 ≠ t) (h4 : 93 ≠ t) (u : Value) : p.Own (w.setCell ⟨g, j, none⟩ u) base :=
  ⟨own_setCell h.fr (own_blk_ne h.fr hb h1) _, own_setCell h.df (own_blk_ne h.df hb h2) _, fun x hx => (h.each x hx).blk hb h3 h4 _, h.apart⟩
theorem PtM.Own.mono {w : World} {base base' : Nat} {p : PtM} (h : p.Own w base) (hB : base' ≤ base) : p.Own w base' := ⟨h.fr.mono hB, h.df.mono hB, fun x hx => ⟨(h.each x hx).by_.mono hB, (h.each x hx).re.mono hB⟩, h.apart⟩
theorem PtM.Own.alloc {w : World} {base : Nat} {p : PtM} (h : p.Own w base) (o : Obj) : p.Own (w.alloc o) base := ⟨h.fr.alloc o, h.df.alloc o, fun x hx => (h.each x hx).alloc o, h.apart⟩

theorem PtM.Own.drew {w : World} {base : Nat} {p : PtM} (h : p.Own w base) : p.Own w.drew base := ⟨h.fr.drew, h.df.drew, fun x hx => ⟨(h.each x hx).by_.drew, (h.each x hx).re.drew⟩, h.apart⟩
end Go.Proofs.YtmlomnhjbmocfaaDoor

/- What part.Join holds while it works: memory, step by step. No program in sight but its types' numbers. -/
namespace Go.Proofs.YtmlomnhjbmocfaaDoor
open Go.RowKit

structure JB (wr : World) (base gB gR gO : Nat) (z1 y1 z2 y2 : Value) (K1 : List FgM) (D1 : List Df) (K2 : List FgM) (D2 : List Df) (L : List FgM) : Prop where
  hB : Blk wr gB 25 #[z2, y2]
  hR : Blk wr gR 25 #[.slice none 0 0, .slice none 0 0]
  hO : Blk wr gO 25 #[z1, y1]
  hz1 : wr.ownsRow base 63 6 z1 K1.length (fgsV K1)
  hy1 : wr.ownsRow base 70 6 y1 D1.length (dfsV D1)
  hz2 : wr.ownsRow base 63 6 z2 K2.length (fgsV K2)
  hy2 : wr.ownsRow base 70 6 y2 D2.length (dfsV D2)
  nz : ∀ g, z2.ownBlock = some g → z1.ownBlock ≠ some g
  ny : ∀ g, y2.ownBlock = some g → y1.ownBlock ≠ some g
  each : ∀ x ∈ K1 ++ L, x.Own wr base
  apart : ApartR (K1 ++ L)
  n1 : gB ≠ gR
  n2 : gB ≠ gO
  n3 : gR ≠ gO
  b1 : base ≤ gB
  b2 : base ≤ gR
  b3 : base ≤ gO

section
variable {wr : World} {base gB gR gO : Nat} {z1 y1 z2 y2 : Value} {K1 : List FgM} {D1 : List Df} {K2 : List FgM} {D2 : List Df} {L : List FgM}
theorem JB.alloc (h : JB wr base gB gR gO z1 y1 z2 y2 K1 D1 K2 D2 L) (o : Obj) : JB (wr.alloc o) base gB gR gO z1 y1 z2 y2 K1 D1 K2 D2 L :=
  ⟨h.hB.alloc o, h.hR.alloc o, h.hO.alloc o, h.hz1.alloc o, h.hy1.alloc o, h.hz2.alloc o, h.hy2.alloc o, h.nz, h.ny, fun x hx => (h.each x hx).alloc o, h.apart, h.n1, h.n2, h.n3, h.b1, h.b2, h.b3⟩
theorem JB.setR {x : FgM} {L2 : List FgM} (h : JB wr base gB gR gO z1 y1 z2 y2 K1 D1 K2 D2 (x :: L2)) {g : Nat} {R1 R2 : List Rel} {r : Rel} (hr : x.f.rs = R1 ++ r :: R2) (hg : x.ra = some ⟨g, 0, none⟩) (v : Int) :
    JB (wr.setCell ⟨g, R1.length * 5 + 3, none⟩ (.int .i64 v)) base gB gR gO z1 y1 z2 y2 K1 D1 K2 D2 (x.withR (R1 ++ { r with frag := v } :: R2) :: L2) := by
  have hx := h.each x (by simp)
  have hb : x.reV.ownBlock = some g := by unfold FgM.reV; rw [hg]; rfl
  have hlen : (R1 ++ { r with frag := v } :: R2).length = x.f.rs.length := by rw [hr]; simp
  have n0 : ∀ {c : Nat} {t : TypeId} {cs : Array Value}, Blk wr c t cs → 93 ≠ t → c ≠ g := fun hc ht e => own_blk_ne hx.re hc ht (by rw [hb, e])
  refine ⟨h.hB.far (n0 h.hB (by decide)) _, h.hR.far (n0 h.hR (by decide)) _, h.hO.far (n0 h.hO (by decide)) _, own_setCell h.hz1 (own_ne_own hx.re h.hz1 (by decide) hb) _, own_setCell h.hy1 (own_ne_own hx.re h.hy1 (by decide) hb) _,
    own_setCell h.hz2 (own_ne_own hx.re h.hz2 (by decide) hb) _, own_setCell h.hy2 (own_ne_own hx.re h.hy2 (by decide) hb) _, h.nz, h.ny, each_setR h.each h.apart hr hg v, apart_with h.apart ?_, h.n1, h.n2, h.n3, h.b1, h.b2, h.b3⟩
  unfold FgM.withR FgM.reV
  simp [hlen]
theorem JB.pushF {x : FgM} {L2 : List FgM} (h : JB wr base gB gR gO z1 y1 z2 y2 K1 D1 K2 D2 (x :: L2)) {w5 : World} {g c : Nat} (ho : w5.ownsRow base 63 6 (.slice (some ⟨g, 0, none⟩) (K1.length + 1) c) (K1.length + 1) (fgsV K1 ++ x.cells))
    (hg : wr.grownBy w5 z1.ownBlock) (hat : z1.ownBlock = some g ∨ g = wr.heap.size) :
    JB (w5.setCell ⟨gO, 0, none⟩ (.slice (some ⟨g, 0, none⟩) (K1.length + 1) c)) base gB gR gO (.slice (some ⟨g, 0, none⟩) (K1.length + 1) c) y1 z2 y2 (K1 ++ [x]) D1 K2 D2 L2 := by
  have hO := h.hO.grown hg (own_blk_ne h.hz1 h.hO (by decide)).symm
  have ho' : w5.ownsRow base 63 6 (.slice (some ⟨g, 0, none⟩) (K1.length + 1) c) (K1 ++ [x]).length (fgsV (K1 ++ [x])) := by
    rw [fgsV_append, List.length_append]
    simpa [fgsV] using ho
  have h2 : z2.ownBlock = none ∨ z2.ownBlock ≠ z1.ownBlock := by
    rcases hb : z2.ownBlock with _ | k
    · exact .inl rfl
    · exact .inr fun e => h.nz k hb e.symm
  have hz2 := own_kept h.hz2 hg h2
  have hy1 := own_kept h.hy1 hg (own_row_ne h.hy1 h.hz1 (by decide))
  have hy2 := own_kept h.hy2 hg (own_row_ne h.hy2 h.hz1 (by decide))
  refine ⟨(h.hB.grown hg (own_blk_ne h.hz1 h.hB (by decide)).symm).far (by have := h.n2; simp only; omega) _, (h.hR.grown hg (own_blk_ne h.hz1 h.hR (by decide)).symm).far (by have := h.n3; simp only; omega) _, hO.set_ 0 _,
    own_setCell ho' (own_blk_ne ho' hO (by decide)) _, own_setCell hy1 (own_blk_ne hy1 hO (by decide)) _, own_setCell hz2 (own_blk_ne hz2 hO (by decide)) _, own_setCell hy2 (own_blk_ne hy2 hO (by decide)) _, ?_, h.ny, fun y hy => ?_, ?_, h.n1, h.n2, h.n3, h.b1, h.b2, h.b3⟩
  · intro k hk e
    have e' : g = k := by simpa [Value.ownBlock] using e
    rcases hat with hat | hat
    · exact h.nz k hk (by rw [hat, e'])
    · have := (h.hz2.lt k hk).2
      omega
  · have hy' : y ∈ K1 ++ x :: L2 := by simpa using hy
    exact ((h.each y hy').row h.hz1 hg (by decide) (by decide)).blk hO (by decide) (by decide) _
  · have := h.apart
    rwa [List.append_cons] at this
theorem JB.hO5 (h : JB wr base gB gR gO z1 y1 z2 y2 K1 D1 K2 D2 L) {w5 : World} (hg : wr.grownBy w5 z1.ownBlock) : Blk w5 gO 25 #[z1, y1] := h.hO.grown hg (own_blk_ne h.hz1 h.hO (by decide)).symm
theorem JB.hO6 (h : JB wr base gB gR gO z1 y1 z2 y2 K1 D1 K2 D2 L) {w5 : World} (hg : wr.grownBy w5 y1.ownBlock) : Blk w5 gO 25 #[z1, y1] := h.hO.grown hg (own_blk_ne h.hy1 h.hO (by decide)).symm
theorem JB.belowF (h : JB wr base gB gR gO z1 y1 z2 y2 K1 D1 K2 D2 L) {w w5 : World} (u : Value) (hb : Below base w wr) (hg : wr.grownBy w5 z1.ownBlock) : Below base w (w5.setCell ⟨gO, 0, none⟩ u) := by
  have h2 := h.hO.lt
  have h3 := h.b3
  exact (hb.grown hg (by omega) (fun g hg' => (h.hz1.lt g hg').1)).setCell (by simp only; omega) _
theorem JB.belowD (h : JB wr base gB gR gO z1 y1 z2 y2 K1 D1 K2 D2 L) {w w5 : World} (u : Value) (hb : Below base w wr) (hg : wr.grownBy w5 y1.ownBlock) : Below base w (w5.setCell ⟨gO, 1, none⟩ u) := by
  have h2 := h.hO.lt
  have h3 := h.b3
  exact (hb.grown hg (by omega) (fun g hg' => (h.hy1.lt g hg').1)).setCell (by simp only; omega) _
theorem JB.pushD (h : JB wr base gB gR gO z1 y1 z2 y2 K1 D1 K2 D2 L) {d : Df} {w5 : World} {g c : Nat} (ho : w5.ownsRow base 70 6 (.slice (some ⟨g, 0, none⟩) (D1.length + 1) c) (D1.length + 1) (dfsV D1 ++ d.cells))
    (hg : wr.grownBy w5 y1.ownBlock) (hat : y1.ownBlock = some g ∨ g = wr.heap.size) :
    JB (w5.setCell ⟨gO, 1, none⟩ (.slice (some ⟨g, 0, none⟩) (D1.length + 1) c)) base gB gR gO z1 (.slice (some ⟨g, 0, none⟩) (D1.length + 1) c) z2 y2 K1 (D1 ++ [d]) K2 D2 L := by
  have hO := h.hO.grown hg (own_blk_ne h.hy1 h.hO (by decide)).symm
  have ho' : w5.ownsRow base 70 6 (.slice (some ⟨g, 0, none⟩) (D1.length + 1) c) (D1 ++ [d]).length (dfsV (D1 ++ [d])) := by
    rw [dfsV_append, List.length_append]
    simpa [dfsV] using ho
  have h2 : y2.ownBlock = none ∨ y2.ownBlock ≠ y1.ownBlock := by
    rcases hb : y2.ownBlock with _ | k
    · exact .inl rfl
    · exact .inr fun e => h.ny k hb e.symm
  have hy2 := own_kept h.hy2 hg h2
  have hz1 := own_kept h.hz1 hg (own_row_ne h.hz1 h.hy1 (by decide))
  have hz2 := own_kept h.hz2 hg (own_row_ne h.hz2 h.hy1 (by decide))
  refine ⟨(h.hB.grown hg (own_blk_ne h.hy1 h.hB (by decide)).symm).far (by have := h.n2; simp only; omega) _, (h.hR.grown hg (own_blk_ne h.hy1 h.hR (by decide)).symm).far (by have := h.n3; simp only; omega) _, hO.set_ 1 _,
    own_setCell hz1 (own_blk_ne hz1 hO (by decide)) _, own_setCell ho' (own_blk_ne ho' hO (by decide)) _, own_setCell hz2 (own_blk_ne hz2 hO (by decide)) _, own_setCell hy2 (own_blk_ne hy2 hO (by decide)) _, h.nz, ?_,
    fun x hx => ((h.each x hx).row h.hy1 hg (by decide) (by decide)).blk hO (by decide) (by decide) _, h.apart, h.n1, h.n2, h.n3, h.b1, h.b2, h.b3⟩
  intro k hk e
  have e' : g = k := by simpa [Value.ownBlock] using e
  rcases hat with hat | hat
  · exact h.ny k hk (by rw [hat, e'])
  · have := (h.hy2.lt k hk).2
    omega
theorem JB.box (h : JB wr base gB gR gO z1 y1 z2 y2 K1 D1 K2 D2 L) {g j : Nat} {cs : Array Value} (hb : Blk wr g 70 cs) (hy1 : y1.ownBlock ≠ some g) (hy2 : y2.ownBlock ≠ some g) (u : Value) : JB (wr.setCell ⟨g, j, none⟩ u) base gB gR gO z1 y1 z2 y2 K1 D1 K2 D2 L := by
  have n0 : ∀ {c : Nat} {cs' : Array Value}, Blk wr c 25 cs' → c ≠ g := fun hc => hc.ne_ hb (by decide)
  exact ⟨h.hB.far (n0 h.hB) _, h.hR.far (n0 h.hR) _, h.hO.far (n0 h.hO) _, own_setCell h.hz1 (own_blk_ne h.hz1 hb (by decide)) _, own_setCell h.hy1 hy1 _, own_setCell h.hz2 (own_blk_ne h.hz2 hb (by decide)) _, own_setCell h.hy2 hy2 _, h.nz, h.ny,
    fun x hx => (h.each x hx).blk hb (by decide) (by decide) _, h.apart, h.n1, h.n2, h.n3, h.b1, h.b2, h.b3⟩
theorem JB.start {w4 : World} {base B gB gR gO : Nat} {q q2 : PtM} {u0 u1 : Value} (hq : q.Own w4 base) (hq2 : q2.Own w4 B) (hBb : base ≤ B) (f1 : ∀ g, q.frV.ownBlock = some g → g < B) (f2 : ∀ g, q.dfV.ownBlock = some g → g < B)
    (f3 : ∀ x ∈ q.frs, ∀ g, x.reV.ownBlock = some g → g < B) (hB : Blk w4 gB 25 #[u0, u1]) (hR : Blk w4 gR 25 #[.slice none 0 0, .slice none 0 0]) (hO : Blk w4 gO 25 #[q.frV, q.dfV])
    (n1 : gB ≠ gR) (n2 : gB ≠ gO) (n3 : gR ≠ gO) (b1 : base ≤ gB) (b2 : base ≤ gR) (b3 : base ≤ gO) :
    JB ((w4.setCell ⟨gB, 0, none⟩ q2.frV).setCell ⟨gB, 1, none⟩ q2.dfV) base gB gR gO q.frV q.dfV q2.frV q2.dfV q.frs q.dfs q2.frs q2.dfs q2.frs := by
  have hB1 := hB.set_ 0 q2.frV
  have hB2 := hB1.set_ 1 q2.dfV
  have hz1 := own_setCell (own_setCell hq.fr (own_blk_ne hq.fr hB (by decide)) q2.frV (p := ⟨gB, 0, none⟩)) (own_blk_ne hq.fr hB (by decide)) q2.dfV (p := ⟨gB, 1, none⟩)
  have hy1 := own_setCell (own_setCell hq.df (own_blk_ne hq.df hB (by decide)) q2.frV (p := ⟨gB, 0, none⟩)) (own_blk_ne hq.df hB (by decide)) q2.dfV (p := ⟨gB, 1, none⟩)
  have hz2 := own_setCell (own_setCell hq2.fr (own_blk_ne hq2.fr hB (by decide)) q2.frV (p := ⟨gB, 0, none⟩)) (own_blk_ne hq2.fr hB (by decide)) q2.dfV (p := ⟨gB, 1, none⟩)
  have hy2 := own_setCell (own_setCell hq2.df (own_blk_ne hq2.df hB (by decide)) q2.frV (p := ⟨gB, 0, none⟩)) (own_blk_ne hq2.df hB (by decide)) q2.dfV (p := ⟨gB, 1, none⟩)
  refine ⟨hB2, (hR.far (by simp only; omega) _).far (by simp only; omega) _, (hO.far (by simp only; omega) _).far (by simp only; omega) _, hz1, hy1, hz2.mono hBb, hy2.mono hBb, ?_, ?_, ?_, ?_, n1, n2, n3, b1, b2, b3⟩
  · intro g hg e
    have := f1 g e
    have := (hq2.fr.lt g hg).1
    omega
  · intro g hg e
    have := f2 g e
    have := (hq2.df.lt g hg).1
    omega
  · intro x hx
    rcases List.mem_append.1 hx with hx | hx
    · exact ((hq.each x hx).blk hB (by decide) (by decide) _).blk hB1 (by decide) (by decide) _
    · have h2 := ((hq2.each x hx).blk hB (by decide) (by decide) q2.frV (j := 0)).blk hB1 (by decide) (by decide) q2.dfV (j := 1)
      exact ⟨h2.by_.mono hBb, h2.re.mono hBb⟩
  · refine List.pairwise_append.2 ⟨hq.apart, hq2.apart, fun x hx y hy g e1 e2 => ?_⟩
    have h1 := f3 x hx g e1
    have h2 := ((hq2.each y hy).re.lt g e2).1
    omega
theorem cells_mapR (g : Rel → Rel) (x : FgM) : (x.mapR g).cells = x.cells := by
  unfold FgM.mapR FgM.cells FgM.byV FgM.reV Frg.mapR
  simp
end
end Go.Proofs.YtmlomnhjbmocfaaDoor
