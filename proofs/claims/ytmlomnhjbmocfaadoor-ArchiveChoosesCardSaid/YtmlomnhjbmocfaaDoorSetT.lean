/- A set of names in a map of the call's own, of which every key leads to 'true': so that its keys are the set; a map from numbers to slices. -/
import Derived.Test.YtmlomnhjbmocfaaDoorB1
import Derived.Test.YtmlomnhjbmocfaaDoorSetD
import Derived.Sort.KeysCollected
import Derived.Maps.RangeWalk
set_option linter.all false
namespace Go.Proofs.YtmlomnhjbmocfaaDoor
open Go.RowKit Go.Maps

/-- Block g is a map whose keys are the names S, each of which leads to 'true'; n entries at most. -/
def SetT (w : World) (g n : Nat) (S : List ByteArray) : Prop :=
  ∃ D : DataW Unit, w.ownsMap Tryd.prog 9 (plainElem Tryd.prog 4) g n D ∧ ∀ x z, D.atKey (nmLit x) z = if x ∈ S then .lit (.bool true) else z
section
variable {w w' : World} {g n : Nat} {S : List ByteArray}
theorem SetT.is (h : SetT w g n S) : SetIs w g n S := let ⟨D, hD, ha⟩ := h; ⟨D, hD, fun x => by rw [ha]; by_cases hx : x ∈ S <;> simp [hx]⟩
theorem SetT.new (w : World) : SetT (w.alloc (.map #[] 0)) w.heap.size 0 [] := ⟨.map [], World.ownsMap_made w _ _ _, fun x z => by simp [DataW.atKey]⟩
theorem SetT.lt (h : SetT w g n S) : g < w.heap.size := h.is.lt
theorem SetT.mono (h : SetT w g n S) {n' : Nat} (hn : n ≤ n') : SetT w g n' S := let ⟨D, hD, ha⟩ := h; ⟨D, hD.mono hn, ha⟩
theorem SetT.kept (h : SetT w g n S) {row : Option Nat} (hg : w.grownBy w' row) (hne : some g ≠ row) : SetT w' g n S := let ⟨D, hD, ha⟩ := h; ⟨D, hD.kept hg hne, ha⟩
theorem SetT.all (h : SetT w g n S) (hb : Below w.heap.size w w') : SetT w' g n S := h.kept (only_of_below hb none) (by simp)
theorem SetT.alloc (h : SetT w g n S) (o : Obj) : SetT (w.alloc o) g n S := let ⟨D, hD, ha⟩ := h; ⟨D, hD.alloc o, ha⟩
theorem SetT.drew (h : SetT w g n S) : SetT w.drew g n S := h
theorem SetT.ext (h : SetT w g n S) {S' : List ByteArray} (he : ∀ x, x ∈ S ↔ x ∈ S') : SetT w g n S' := let ⟨D, hD, ha⟩ := h; ⟨D, hD, fun x z => by rw [ha]; simp only [he x]⟩
theorem atKey_consT {D : DataW Unit} (hD : IsMap D) (s x : ByteArray) (z : DataW Unit) {S : List ByteArray} (ha : ∀ x z, D.atKey (nmLit x) z = if x ∈ S then .lit (.bool true) else z) :
    (D.put (nmLit s) (.lit (.bool true))).atKey (nmLit x) z = if x ∈ s :: S then .lit (.bool true) else z := by
  by_cases hx : x = s
  · subst hx
    rw [atKey_put_same hD (nmLit_key _), if_pos (by simp)]
  · rw [atKey_put_other (fun e => hx (nmLit_inj e)), ha]
    simp [hx]
end
/-- 'm[s] = true' at the operation. -/
theorem wpList_setPutT (w : World) {ops : Array Oper} {rest : List Oper} {o : Oper} {a : Act} {Q : Exit → Act → World → Prop} (hg : o.guard = none) (m x v : Operand) (hop : o.op = Op.mapUpdate 81 m x v)
    (g n : Nat) (S : List ByteArray) (h : SetT w g n S) (hm : a.eval m = .map (some g)) (hn : n < 1000000) (s : ByteArray) (hx : a.eval x = .string s) (hv : a.eval v = .bool true) (hs : s.size ≤ 1000000)
    (hK : ∀ w', SetT w' g (n + 1) (s :: S) → w.grownBy w' (some g) → wpList Tryd.prog ops Q rest (a.put o.dst undef) w') : wpList Tryd.prog ops Q (o :: rest) a w := by
  obtain ⟨D, hD, ha⟩ := h
  have hM := hD.isMap
  refine wpList_mapUpdate_own w hg m x v 81 hop 9 4 nm_keyed Tryd.underlying81 _ g n D hm hD (by unfold maxLen; omega) (.string s) (.bool true) (nmLit s) hx hv (nm_key hs) _ [] (plainElem_bool Tryd.underlying4 true) ?_
  intro w' h1 h2
  exact hK w' ⟨_, h1, fun y z => atKey_consT hM s y z ha⟩ h2
theorem size_le {H : Type} {P : Program} {k : TypeId} {R : Value → Option (DataW H × List MemPlace)} {w : World} {b n : Nat} {D : DataW H} (h : w.ownsMap P k R b n D) : Maps.size D ≤ n := by
  obtain ⟨es, clock, hb, F, hs, rfl⟩ := h
  show ((es.toList.map _).foldr DataW.insert []).length ≤ n
  rw [length_sorted]
  simpa using hs
theorem has_set {D : DataW Unit} {S : List ByteArray} (ha : ∀ x z, D.atKey (nmLit x) z = if x ∈ S then .lit (.bool true) else z) (x : List UInt8) : has D (.string x) = true ↔ ofKey x ∈ S := by
  have e : (Lit.string x) = nmLit (ofKey x) := by simp [nmLit, ofKey]
  rw [e]
  by_cases hx : ofKey x ∈ S
  · exact ⟨fun _ => hx, fun _ => has_true_of_atKey (y := .lit (.bool true)) fun z => by rw [ha, if_pos hx]⟩
  · refine ⟨fun h => ?_, fun h => absurd h hx⟩
    rw [has_false_of_atKey fun z => by rw [ha, if_neg hx]] at h
    cases h
/-- What a range has collected, sorted: the set's names, rising. -/
theorem collected_sorted {D : DataW Unit} {S : List ByteArray} (ha : ∀ x z, D.atKey (nmLit x) z = if x ∈ S then .lit (.bool true) else z) {left : Lit → Bool} {ss : List (List UInt8)} (hC : Collected D left ss) (hl : ∀ kl, left kl = false) : sortS (ss.map ofKey) = setS S := by
  have hk : (ss.map ofKey).map keyOf = ss := map_key_of ss
  have hr : Rising ((sortS (ss.map ofKey)).map keyOf) := by
    rw [sortS_key, hk]
    have hs := sort_sorted ss
    have hn : (ss.mergeSort fun x y => decide (x ≤ y)).Nodup := (List.mergeSort_perm ss _).nodup_iff.2 hC.1
    exact hs.and hn
  have e : (sortS (ss.map ofKey)).map keyOf = (setS S).map keyOf := rising_unique hr (setS_rising S) fun x => by
    rw [sortS_key, hk, (List.mergeSort_perm ss _).mem_iff, hC.2 x, hl]
    simp only [and_true]
    rw [has_set ha]
    have : x = keyOf (ofKey x) := (key_of x).symm
    conv => rhs; rw [this]
    rw [key_mem, setS_mem]
  have := congrArg (fun l => l.map ofKey) e
  simpa only [map_of_key] using this

/-! ### slices as a map's elements -/
def slD : Value → DataW Unit
  | .slice (some a) n c => .slice [.lit (.int .i64 a.block), .lit (.int .i64 a.off), .lit (.int .i64 n), .lit (.int .i64 c)] []
  | _ => .nil
def slEl (v : Value) : Option (DataW Unit × List MemPlace) :=
  match v with
  | .slice none 0 0 => some (.nil, [])
  | .slice (some ⟨b, o, none⟩) n c => some (.slice [.lit (.int .i64 b), .lit (.int .i64 o), .lit (.int .i64 n), .lit (.int .i64 c)] [], [])
  | _ => none
/-- A slice that is nil, or lies in a block that is no part of another one. -/
def SlOk (v : Value) : Prop := v = .slice none 0 0 ∨ ∃ b o n c, v = .slice (some ⟨b, o, none⟩) n c
theorem slEl_mk {v : Value} (h : SlOk v) : slEl v = some (slD v, []) := by
  rcases h with rfl | ⟨b, o, n, c, rfl⟩ <;> rfl
theorem slEl_inv {v : Value} {z : DataW Unit × List MemPlace} (h : slEl v = some z) : SlOk v ∧ z = (slD v, []) := by
  unfold slEl at h
  split at h
  · injection h with h; exact ⟨.inl rfl, h.symm⟩
  · injection h with h; exact ⟨.inr ⟨_, _, _, _, rfl⟩, h.symm⟩
  · cases h
theorem slD_inj {v v' : Value} (h : SlOk v) (h' : SlOk v') (e : slD v = slD v') : v = v' := by
  rcases h with rfl | ⟨b, o, n, c, rfl⟩ <;> rcases h' with rfl | ⟨b', o', n', c', rfl⟩
  · rfl
  · simp [slD] at e
  · simp [slD] at e
  · simp only [slD, DataW.slice.injEq, List.cons.injEq, DataW.lit.injEq, Lit.int.injEq, true_and, and_true] at e
    obtain ⟨e1, e2, e3, e4⟩ := e
    have : b = b' := by omega
    have : o = o' := by omega
    have : n = n' := by omega
    have : c = c' := by omega
    subst_vars
    rfl
theorem sl_own {w : World} {base : Nat} {t : TypeId} {size n : Nat} {v : Value} {xs : List Value} (h : w.ownsRow base t size v n xs) : SlOk v := by
  rcases h.2 with ⟨e, _⟩ | ⟨g, cap, cur, e, _⟩
  · exact .inl e
  · exact .inr ⟨_, _, _, _, e⟩
end Go.Proofs.YtmlomnhjbmocfaaDoor
