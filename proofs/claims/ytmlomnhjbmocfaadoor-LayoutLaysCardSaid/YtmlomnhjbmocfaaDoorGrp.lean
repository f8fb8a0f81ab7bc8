/- A map from numbers to rows of definitions, of the call's own: what the document's Find keeps. -/
import Derived.Test.YtmlomnhjbmocfaaDoorSetT
import Derived.Test.YtmlomnhjbmocfaaDoorB1
import Derived.Test.YtmlomnhjbmocfaaDoorFindW
set_option linter.all false
namespace Go.Proofs.YtmlomnhjbmocfaaDoor
open Go.RowKit Go.Maps

theorem int_keyed_ : Keyed Tryd.prog 3 := int_keyed Tryd.underlying3
theorem kind_key {k : Int} (h : 1 ≤ k ∧ k ≤ 3) : Go.keyOf Tryd.prog 3 (.int .i64 k) = some (.int .i64 k) := keyOf_int_mk Tryd.underlying3 (WalkArith.wf_i64 (by omega))
theorem zero_dfs (w : World) : (zeroValue 23).run Tryd.prog w = .ok (.slice none 0 0) w := by kernel_rfl
/-- Block g is a map of at most n entries: at each of the numbers 1 to 3 stands what f says. -/
def GrpIs (w : World) (g n : Nat) (f : Int → Value) : Prop :=
  (∀ k, SlOk (f k)) ∧ ∃ D : DataW Unit, w.ownsMap Tryd.prog 3 slEl g n D ∧ ∀ k, 1 ≤ k ∧ k ≤ 3 → D.atKey (.int .i64 k) .nil = slD (f k)
section
variable {w w' : World} {g n : Nat} {f : Int → Value}
theorem GrpIs.new (w : World) : GrpIs (w.alloc (.map #[] 0)) w.heap.size 0 (fun _ => .slice none 0 0) := ⟨fun _ => .inl rfl, .map [], World.ownsMap_made w _ _ _, fun k _ => by simp [DataW.atKey, slD]⟩
theorem GrpIs.lt (h : GrpIs w g n f) : g < w.heap.size := let ⟨_, _, hD, _⟩ := h; hD.lt
theorem GrpIs.kept (h : GrpIs w g n f) {row : Option Nat} (hg : w.grownBy w' row) (hne : some g ≠ row) : GrpIs w' g n f := let ⟨h0, D, hD, ha⟩ := h; ⟨h0, D, hD.kept hg hne, ha⟩
theorem GrpIs.all (h : GrpIs w g n f) (hb : Below w.heap.size w w') : GrpIs w' g n f := h.kept (only_of_below hb none) (by simp)
set_option maxRecDepth 100000 in
theorem GrpIs.look (h : GrpIs w g n f) {k : Int} (hk : 1 ≤ k ∧ k ≤ 3) : (Instr.lookup 131 (.map (some g)) (.int .i64 k) false).run Tryd.prog w = .ok (f k) w := by
  obtain ⟨h0, D, hD, ha⟩ := h
  obtain ⟨v, ps, hrun, hv⟩ := hD.lookup int_keyed_ Tryd.underlying131 (zero_dfs w) (zd := .nil) (zp := []) rfl (kind_key hk)
  obtain ⟨hs, hz⟩ := slEl_inv hv
  injection hz with hz _
  rw [ha k hk] at hz
  rw [hrun, slD_inj hs (h0 k) hz.symm]
set_option maxRecDepth 100000 in
theorem GrpIs.update (h : GrpIs w g n f) {k : Int} (hk : 1 ≤ k ∧ k ≤ 3) (hn : n < 1000000) {v : Value} (hv : SlOk v) :
    ∃ w', (Instr.mapUpdate 131 (.map (some g)) (.int .i64 k) v).run Tryd.prog w = .ok () w' ∧ GrpIs w' g (n + 1) (fun j => if j = k then v else f j) ∧ w.grownBy w' (some g) := by
  obtain ⟨h0, D, hD, ha⟩ := h
  have hM := hD.isMap
  obtain ⟨w', hrun, h1, h2⟩ := hD.update int_keyed_ Tryd.underlying131 (by unfold maxLen; omega) (kind_key hk) (slEl_mk hv)
  refine ⟨w', hrun, ⟨fun j => ?_, _, h1, fun j hj => ?_⟩, h2⟩
  · show SlOk (if j = k then v else f j)
    split
    · exact hv
    · exact h0 j
  · by_cases e : j = k
    · subst e
      rw [atKey_put_same hM (show WideAt.IsKeyLit (.int .i64 j) from trivial)]
      show slD v = slD (if j = j then v else f j)
      rw [if_pos rfl]
    · rw [atKey_put_other (fun hn => e (by injection hn)), ha j hj]
      show slD (f j) = slD (if j = k then v else f j)
      rw [if_neg e]
theorem GrpIs.ne_row (h : GrpIs w g n f) {base size m : Nat} {t : TypeId} {v : Value} {xs : List Value} (hr : w.ownsRow base t size v m xs) : some g ≠ v.ownBlock := by
  obtain ⟨_, D, ⟨es, clock, hb, _⟩, _⟩ := h
  rcases hr.2 with ⟨rfl, _⟩ | ⟨g', cap, cur, rfl, _, hb', _⟩
  · simp [Value.ownBlock]
  · intro e
    simp only [Value.ownBlock, Option.some.injEq] at e
    subst e
    rw [hb] at hb'
    cases hb'
end
theorem GrpIs.ne_blk {w : World} {g n : Nat} {f : Int → Value} (h : GrpIs w g n f) {c : Nat} {t : TypeId} {cs : Array Value} (hk : Blk w c t cs) : some c ≠ some g := by
  obtain ⟨_, D, ⟨es, clock, hb, _⟩, _⟩ := h
  intro e
  injection e with e
  subst e
  unfold Blk at hk
  rw [hb] at hk
  cases hk
/-- A step that stores into the map. -/
theorem step_grpPut {w : World} {ops : Array Oper} {o : Oper} {a : Act} {K : Act → World → Prop} {Q : Exit → Act → World → Prop} {E : Prop} (hgd : o.guard = none) (m x v : Operand) (hop : o.op = Op.mapUpdate 131 m x v)
    (g n : Nat) (f : Int → Value) (h : GrpIs w g n f) (hm : a.eval m = .map (some g)) (hn : n < 1000000) (k : Int) (hk : 1 ≤ k ∧ k ≤ 3) (hx : a.eval x = .int .i64 k) (u : Value) (hv : a.eval v = u) (hu : SlOk u)
    (hK : ∀ w', GrpIs w' g (n + 1) (fun j => if j = k then u else f j) → w.grownBy w' (some g) → K (a.put o.dst undef) w') : if Region.wanted o (yielded ops a.tmps) = true then Oper.wp Tryd.prog o a w K Q else E := by
  have hw : Region.wanted o (yielded ops a.tmps) = true := by simp [Region.wanted, hgd]
  rw [if_pos hw]
  obtain ⟨w', hrun, r1, r2⟩ := h.update hk hn hu
  unfold Oper.wp
  simp [execOp, hop, hm, hx, hv, hrun, Result.andThen]
  exact hK _ r1 r2

/-- The map, and the three rows that it leads to: the definitions of that name, by kinds. -/
structure GrpAt (base : Nat) (s : ByteArray) (l : List Df) (wr : World) (g n : Nat) (f : Int → Value) : Prop where
  grp : GrpIs wr g n f
  row : ∀ k : Int, 1 ≤ k ∧ k ≤ 3 → wr.ownsRow base 70 6 (f k) (ofKind s k l).length (dfsV (ofKind s k l))
  apart : ∀ k k' : Int, 1 ≤ k ∧ k ≤ 3 → 1 ≤ k' ∧ k' ≤ 3 → k ≠ k' → (f k).ownBlock = none ∨ (f k).ownBlock ≠ (f k').ownBlock
section
variable {base g n : Nat} {s : ByteArray} {l : List Df} {wr w' : World} {f : Int → Value}
theorem GrpAt.all (h : GrpAt base s l wr g n f) (hb : Below wr.heap.size wr w') : GrpAt base s l w' g n f := ⟨h.grp.all hb, fun k hk => own_all (h.row k hk) hb, h.apart⟩
theorem GrpAt.skip (h : GrpAt base s l wr g n f) {d : Df} (hd : d.name ≠ s) : GrpAt base s (l ++ [d]) wr g n f := ⟨h.grp, fun k hk => by
  rw [ofKind_snoc, if_neg (fun hn => hd hn.1)]
  exact h.row k hk, h.apart⟩
/-- One more: the row of its kind has grown, and the map leads to it. -/
theorem GrpAt.push (h : GrpAt base s l wr g n f) {d : Df} (hn : d.name = s) (hk : 1 ≤ d.kind ∧ d.kind ≤ 3) {v : Value} {w1 w2 : World} (hr : w1.ownsRow base 70 6 v ((ofKind s d.kind l).length + 1) (dfsV (ofKind s d.kind l) ++ d.cells))
    (hg : wr.grownBy w1 (f d.kind).ownBlock) (hv : v.ownBlock = (f d.kind).ownBlock ∨ v.ownBlock = some wr.heap.size) (hm : GrpIs w2 g (n + 1) (fun j => if j = d.kind then v else f j)) (hg2 : w1.grownBy w2 (some g)) (hgr : some g ≠ v.ownBlock) :
    GrpAt base s (l ++ [d]) w2 g (n + 1) (fun j => if j = d.kind then v else f j) := by
  refine ⟨hm, fun k hk' => ?_, fun k k' hk1 hk2 hne => ?_⟩
  · by_cases e : k = d.kind
    · subst e
      show w2.ownsRow base _ 6 (if d.kind = d.kind then v else f d.kind) _ _
      rw [if_pos rfl, ofKind_snoc, if_pos ⟨hn, rfl⟩, List.length_append]
      have := hr.kept hg2 (.inr (fun e => hgr e.symm))
      rw [show dfsV (ofKind s d.kind l ++ [d]) = dfsV (ofKind s d.kind l) ++ d.cells by simp [dfsV]]
      exact this
    · show w2.ownsRow base _ 6 (if k = d.kind then v else f k) _ _
      rw [if_neg e, ofKind_snoc, if_neg (fun hh => e hh.2.symm)]
      have h1 := (h.row k hk').kept hg (by
        rcases h.apart k d.kind hk' hk e with h1 | h1
        · exact .inl h1
        · exact .inr h1)
      refine h1.kept hg2 (.inr fun e2 => ?_)
      exact h.grp.ne_row (h.row k hk') e2.symm
  · show (if k = d.kind then v else f k).ownBlock = none ∨ (if k = d.kind then v else f k).ownBlock ≠ (if k' = d.kind then v else f k').ownBlock
    by_cases e : k = d.kind
    · subst e
      rw [if_pos rfl, if_neg (fun e => hne e.symm)]
      rcases hv with hv | hv
      · rw [hv]; exact h.apart _ _ hk hk2 hne
      · rw [hv]
        refine .inr fun e2 => ?_
        have := ((h.row k' hk2).lt _ e2.symm).2
        omega
    · rw [if_neg e]
      by_cases e' : k' = d.kind
      · subst e'
        rw [if_pos rfl]
        rcases hv with hv | hv
        · rw [hv]; exact h.apart _ _ hk1 hk hne
        · rw [hv]
          refine .inr fun e2 => ?_
          have := ((h.row k hk1).lt _ e2).2
          omega
      · rw [if_neg e']; exact h.apart _ _ hk1 hk2 hne
end
end Go.Proofs.YtmlomnhjbmocfaaDoor
