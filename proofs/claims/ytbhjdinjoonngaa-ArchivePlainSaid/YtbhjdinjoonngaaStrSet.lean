/- A set of names in a map of the call's own: map[string]bool. -/
import Derived.Test.YtbhjdinjoonngaaEqP
import Derived.Test.YtbhjdinjoonngaaBA
import Derived.Maps.OwnSet
import Derived.Maps.OwnOps
set_option linter.all false
namespace Go.Proofs.Ytbhjdinjoonngaa
open Go.RowKit Go.Maps

def nmLit (s : ByteArray) : Lit := .string s.data.toList
theorem nmLit_inj {s t : ByteArray} (h : nmLit s = nmLit t) : s = t := by
  unfold nmLit at h
  injection h with h
  exact bytes_ext h
theorem nmLit_key (s : ByteArray) : WideAt.IsKeyLit (nmLit s) := trivial
theorem nm_key {s : ByteArray} (h : s.size ≤ 1000000) : Go.keyOf Try.prog 9 (.string s) = some (nmLit s) := Go.WideMaps.keyOf_string_mk Try.underlying9 (by
  unfold maxLen
  omega)
theorem nm_keyed : Keyed Try.prog 9 := string_keyed Try.underlying9
theorem zero_bool (w : World) : (zeroValue 4).run Try.prog w = .ok (.bool false) w := by kernel_rfl
set_option maxRecDepth 100000 in
theorem plain_bool_inv {v : Value} {z : DataW Unit × List MemPlace} (h : plainElem Try.prog 4 v = some z) : ∃ b, v = .bool b ∧ z = (.lit (.bool b), []) := by
  unfold plainElem at h
  rw [Try.underlying4] at h
  cases v <;> simp at h
  exact ⟨_, rfl, h.symm⟩

/-- Block g is a map whose keys that lead to 'true' are the names S; n entries at most. -/
def SetIs (w : World) (g n : Nat) (S : List ByteArray) : Prop :=
  ∃ D : DataW Unit, w.ownsMap Try.prog 9 (plainElem Try.prog 4) g n D ∧ ∀ x, D.atKey (nmLit x) (.lit (.bool false)) = .lit (.bool (decide (x ∈ S)))
section
variable {w w' : World} {g n : Nat} {S : List ByteArray}
theorem SetIs.new (w : World) : SetIs (w.alloc (.map #[] 0)) w.heap.size 0 [] := ⟨.map [], World.ownsMap_made w _ _ _, fun x => by simp [DataW.atKey]⟩
theorem SetIs.lt (h : SetIs w g n S) : g < w.heap.size := let ⟨_, hD, _⟩ := h; hD.lt
theorem SetIs.mono (h : SetIs w g n S) {n' : Nat} (hn : n ≤ n') : SetIs w g n' S := let ⟨D, hD, ha⟩ := h; ⟨D, hD.mono hn, ha⟩
theorem SetIs.kept (h : SetIs w g n S) {row : Option Nat} (hg : w.grownBy w' row) (hne : some g ≠ row) : SetIs w' g n S := let ⟨D, hD, ha⟩ := h; ⟨D, hD.kept hg hne, ha⟩
theorem SetIs.all (h : SetIs w g n S) (hb : Below w.heap.size w w') : SetIs w' g n S := h.kept (only_of_below hb none) (by simp)
theorem SetIs.alloc (h : SetIs w g n S) (o : Obj) : SetIs (w.alloc o) g n S := let ⟨D, hD, ha⟩ := h; ⟨D, hD.alloc o, ha⟩
theorem SetIs.drew (h : SetIs w g n S) : SetIs w.drew g n S := h
theorem SetIs.ext (h : SetIs w g n S) {S' : List ByteArray} (he : ∀ x, x ∈ S ↔ x ∈ S') : SetIs w g n S' := let ⟨D, hD, ha⟩ := h; ⟨D, hD, fun x => by rw [ha, decide_eq_decide.2 (he x)]⟩
set_option maxRecDepth 100000 in
theorem SetIs.look (h : SetIs w g n S) {s : ByteArray} (hs : s.size ≤ 1000000) : (Instr.lookup 72 (.map (some g)) (.string s) false).run Try.prog w = .ok (.bool (decide (s ∈ S))) w := by
  obtain ⟨D, hD, ha⟩ := h
  obtain ⟨v, ps, hrun, hv⟩ := hD.lookup nm_keyed Try.underlying72 (zero_bool w) (plainElem_bool Try.underlying4 false) (nm_key hs)
  obtain ⟨b, rfl, hz⟩ := plain_bool_inv hv
  rw [ha s] at hz
  injection hz with hz _
  injection hz with hz
  injection hz with hz
  rw [hrun, hz]
theorem DataW.atKey_cons {D : DataW Unit} (hD : IsMap D) (s x : ByteArray) {S : List ByteArray} (ha : ∀ x, D.atKey (nmLit x) (.lit (.bool false)) = .lit (.bool (decide (x ∈ S)))) :
    (D.put (nmLit s) (.lit (.bool true))).atKey (nmLit x) (.lit (.bool false)) = .lit (.bool (decide (x ∈ s :: S))) := by
  by_cases hx : x = s
  · subst hx
    rw [atKey_put_same hD (nmLit_key _)]
    simp
  · rw [atKey_put_other (fun e => hx (nmLit_inj e)), ha]
    congr 2
    exact decide_eq_decide.2 (by simp [hx])
end
/-- 'm[s] = true' at the operation. -/
theorem wpList_setPut (w : World) {ops : Array Oper} {rest : List Oper} {o : Oper} {a : Act} {Q : Exit → Act → World → Prop} (hg : o.guard = none) (m x v : Operand) (hop : o.op = Op.mapUpdate 72 m x v)
    (g n : Nat) (S : List ByteArray) (h : SetIs w g n S) (hm : a.eval m = .map (some g)) (hn : n < 1000000) (s : ByteArray) (hx : a.eval x = .string s) (hv : a.eval v = .bool true) (hs : s.size ≤ 1000000)
    (hK : ∀ w', SetIs w' g (n + 1) (s :: S) → w.grownBy w' (some g) → wpList Try.prog ops Q rest (a.put o.dst undef) w') : wpList Try.prog ops Q (o :: rest) a w := by
  obtain ⟨D, hD, ha⟩ := h
  have hM := hD.isMap
  refine wpList_mapUpdate_own w hg m x v 72 hop 9 4 nm_keyed Try.underlying72 _ g n D hm hD (by unfold maxLen; omega) (.string s) (.bool true) (nmLit s) hx hv (nm_key hs) _ [] (plainElem_bool Try.underlying4 true) ?_
  intro w' h1 h2
  exact hK w' ⟨_, h1, fun y => DataW.atKey_cons hM s y ha⟩ h2
end Go.Proofs.Ytbhjdinjoonngaa
