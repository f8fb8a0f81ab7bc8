/- ArcI: texts that belong together. -/
import Derived.IntWalk
import Derived.Maps.OwnOps
import Derived.Maps.OwnSet
import Derived.Test.YtbhjdinjoonngaaBA
import Derived.Test.YtbhjdinjoonngaaEqP
import Derived.Test.YtbhjdinjoonngaaEvalX
import Derived.Test.YtbhjdinjoonngaaNameW
import Derived.Test.YtbhjdinjoonngaaSetD
import Derived.Test.YtbhjdinjoonngaaTwoW
set_option linter.all false
/- A set of names in a map of the call's own: map[string]bool. -/
namespace Go.Proofs.Ytbhjdinjoonngaa
open Go.RowKit Go.Maps

def nmLit (s : ByteArray) : Lit := .string s.data.toList
theorem nmLit_inj {s t : ByteArray} (h : nmLit s = nmLit t) : s = t := by
  unfold nmLit at h
  injection h with h
  exact bytes_ext h
theorem nmLit_key (s : ByteArray) : WideAt.IsKeyLit (nmLit s) := trivial
theorem nm_key {s : ByteArray} (h : s.size ≤ 1000000) : Go.keyOf Try.prog 9 (.string s) = some (nmLit s) := Go.WideMaps.keyOf_string_mk Try.underlying9 (by
  unfold maxLen
  omega)
theorem nm_keyed : Keyed Try.prog 9 := string_keyed Try.underlying9
theorem zero_bool (w : World) : (zeroValue 4).run Try.prog w = .ok (.bool false) w := by kernel_rfl
set_option maxRecDepth 100000 in
theorem plain_bool_inv {v : Value} {z : DataW Unit × List MemPlace} (h : plainElem Try.prog 4 v = some z) : ∃ b, v = .bool b ∧ z = (.lit (.bool b), []) := by
  unfold plainElem at h
  rw [Try.underlying4] at h
  cases v <;> simp at h
  exact ⟨_, rfl, h.symm⟩

/-- Block g is a map whose keys that lead to 'true' are the names S; n entries at most. -/
def SetIs (w : World) (g n : Nat) (S : List ByteArray) : Prop :=
  ∃ D : DataW Unit, w.ownsMap Try.prog 9 (plainElem Try.prog 4) g n D ∧ ∀ x, D.atKey (nmLit x) (.lit (.bool false)) = .lit (.bool (decide (x ∈ S)))
section
variable {w w' : World} {g n : Nat} {S : List ByteArray}
theorem SetIs.new (w : World) : SetIs (w.alloc (.map #[] 0)) w.heap.size 0 [] := ⟨.map [], World.ownsMap_made w _ _ _, fun x => by simp [DataW.atKey]⟩
theorem SetIs.lt (h : SetIs w g n S) : g < w.heap.size := let ⟨_, hD, _⟩ := h; hD.lt
theorem SetIs.mono (h : SetIs w g n S) {n' : Nat} (hn : n ≤ n') : SetIs w g n' S := let ⟨D, hD, ha⟩ := h; ⟨D, hD.mono hn, ha⟩
theorem SetIs.kept (h : SetIs w g n S) {row : Option Nat} (hg : w.grownBy w' row) (hne : some g ≠ row) : SetIs w' g n S := let ⟨D, hD, ha⟩ := h; ⟨D, hD.kept hg hne, ha⟩
theorem SetIs.all (h : SetIs w g n S) (hb : Below w.heap.size w w') : SetIs w' g n S := h.kept (only_of_below hb none) (by simp)
theorem SetIs.alloc (h : SetIs w g n S) (o : Obj) : SetIs (w.alloc o) g n S := let ⟨D, hD, ha⟩ := h; ⟨D, hD.alloc o, ha⟩
theorem SetIs.drew (h : SetIs w g n S) : SetIs w.drew g n S := h
theorem SetIs.ext (h : SetIs w g n S) {S' : List ByteArray} (he : ∀ x, x ∈ S ↔ x ∈ S') : SetIs w g n S' := let ⟨D, hD, ha⟩ := h; ⟨D, hD, fun x => by rw [ha, decide_eq_decide.2 (he x)]⟩
set_option maxRecDepth 100000 in
theorem SetIs.look (h : SetIs w g n S) {s : ByteArray} (hs : s.size ≤ 1000000) : (Instr.lookup 72 (.map (some g)) (.string s) false).run Try.prog w = .ok (.bool (decide (s ∈ S))) w := by
  obtain ⟨D, hD, ha⟩ := h
  obtain ⟨v, ps, hrun, hv⟩ := hD.lookup nm_keyed Try.underlying72 (zero_bool w) (plainElem_bool Try.underlying4 false) (nm_key hs)
  obtain ⟨b, rfl, hz⟩ := plain_bool_inv hv
  rw [ha s] at hz
  injection hz with hz _
  injection hz with hz
  injection hz with hz
  rw [hrun, hz]
theorem DataW.atKey_cons {D : DataW Unit} (hD : IsMap D) (s x : ByteArray) {S : List ByteArray} (ha : ∀ x, D.atKey (nmLit x) (.lit (.bool false)) = .lit (.bool (decide (x ∈ S)))) :
    (D.put (nmLit s) (.lit (.bool true))).atKey (nmLit x) (.lit (.bool false)) = .lit (.bool (decide (x ∈ s :: S))) := by
  by_cases hx : x = s
  · subst hx
    rw [atKey_put_same hD (nmLit_key _)]
    simp
  · rw [atKey_put_other (fun e => hx (nmLit_inj e)), ha]
    congr 2
    exact decide_eq_decide.2 (by simp [hx])
end
/-- 'm[s] = true' at the operation. -/
theorem wpList_setPut (w : World) {ops : Array Oper} {rest : List Oper} {o : Oper} {a : Act} {Q : Exit → Act → World → Prop} (hg : o.guard = none) (m x v : Operand) (hop : o.op = Op.mapUpdate 72 m x v)
    (g n : Nat) (S : List ByteArray) (h : SetIs w g n S) (hm : a.eval m = .map (some g)) (hn : n < 1000000) (s : ByteArray) (hx : a.eval x = .string s) (hv : a.eval v = .bool true) (hs : s.size ≤ 1000000)
    (hK : ∀ w', SetIs w' g (n + 1) (s :: S) → w.grownBy w' (some g) → wpList Try.prog ops Q rest (a.put o.dst undef) w') : wpList Try.prog ops Q (o :: rest) a w := by
  obtain ⟨D, hD, ha⟩ := h
  have hM := hD.isMap
  refine wpList_mapUpdate_own w hg m x v 72 hop 9 4 nm_keyed Try.underlying72 _ g n D hm hD (by unfold maxLen; omega) (.string s) (.bool true) (nmLit s) hx hv (nm_key hs) _ [] (plainElem_bool Try.underlying4 true) ?_
  intro w' h1 h2
  exact hK w' ⟨_, h1, fun y => DataW.atKey_cons hM s y ha⟩ h2
end Go.Proofs.Ytbhjdinjoonngaa

/- archive.Choose as plain data. No program in sight. -/
namespace Go.Proofs.Ytbhjdinjoonngaa

structure Itm where
  arch : Bool
  ps : List Prt
def ckItem (x : Itm) : Int := if 8 < x.ps.length then 2 else if x.arch = false ∧ x.ps.length ≠ 1 then 4 else firstBad (x.ps.map ckPart)
def ckItems (l : List Itm) : Int := if 12 < l.length then 2 else firstBad (l.map ckItem)
theorem ckItem_many {x : Itm} (h : 8 < x.ps.length) : ckItem x = 2 := if_pos h
theorem ckItem_form {x : Itm} (h : ¬ 8 < x.ps.length) (h1 : x.arch = false) (h2 : x.ps.length ≠ 1) : ckItem x = 4 := by unfold ckItem; rw [if_neg h, if_pos ⟨h1, h2⟩]
theorem ckItem_parts {x : Itm} (h : ¬ 8 < x.ps.length) (h1 : ¬ (x.arch = false ∧ x.ps.length ≠ 1)) : ckItem x = firstBad (x.ps.map ckPart) := by unfold ckItem; rw [if_neg h, if_neg h1]
theorem ckItem_zero {x : Itm} (h : ckItem x = 0) : x.ps.length ≤ 8 ∧ (x.arch = false → x.ps.length = 1) ∧ ∀ p ∈ x.ps, ckPart p = 0 := by
  by_cases h1 : 8 < x.ps.length
  · rw [ckItem_many h1] at h; cases h
  · by_cases h2 : x.arch = false ∧ x.ps.length ≠ 1
    · rw [ckItem_form h1 h2.1 h2.2] at h; cases h
    · rw [ckItem_parts h1 h2] at h
      exact ⟨by omega, fun ha => by by_cases he : x.ps.length = 1; exact he; exact absurd ⟨ha, he⟩ h2, fun p hp => firstBad_zero.1 h _ (List.mem_map_of_mem hp)⟩
theorem ckItems_zero {l : List Itm} (h : ckItems l = 0) : l.length ≤ 12 ∧ ∀ x ∈ l, ckItem x = 0 := by
  unfold ckItems at h
  split at h
  · cases h
  · exact ⟨by omega, fun x hx => firstBad_zero.1 h _ (List.mem_map_of_mem hx)⟩
theorem ckItems_many {l : List Itm} (h : 12 < l.length) : ckItems l = 2 := if_pos h
theorem ckItems_few {l : List Itm} (h : ¬ 12 < l.length) : ckItems l = firstBad (l.map ckItem) := if_neg h

/-- The names that are wanted, and defined, where some parts are taken. -/
def wantS (first : List ByteArray) (out : List Prt) : List ByteArray := first ++ out.flatMap wantedP
def haveS (out : List Prt) : List ByteArray := out.flatMap definedP
/-- Does a definition help? A part? -/
def helpD (W D : List ByteArray) (d : Df) : Bool := (d.kind != 3) && (decide (d.name ∈ W) && !decide (d.name ∈ D))
def helpsB (first : List ByteArray) (out : List Prt) (p : Prt) : Bool := p.dfs.any (helpD (wantS first out) (haveS out))
def passStep (first : List ByteArray) (ps : List Prt) (st : List Bool × List Prt × Bool) (i : Nat) : List Bool × List Prt × Bool :=
  match ps[i]? with
  | some p => if st.1[i]? = some false ∧ helpsB first st.2.1 p = true then (st.1.set i true, st.2.1 ++ [p], true) else st
  | none => st
def passTo (first : List ByteArray) (ps : List Prt) (t : List Bool) (o : List Prt) (k : Nat) : List Bool × List Prt × Bool := (List.range k).foldl (passStep first ps) (t, o, false)
theorem passTo_zero (first : List ByteArray) (ps : List Prt) (t : List Bool) (o : List Prt) : passTo first ps t o 0 = (t, o, false) := rfl
theorem passTo_succ (first : List ByteArray) (ps : List Prt) (t : List Bool) (o : List Prt) (k : Nat) : passTo first ps t o (k + 1) = passStep first ps (passTo first ps t o k) k := by
  unfold passTo; rw [List.range_succ, List.foldl_append]; rfl
theorem passStep_take {first : List ByteArray} {ps : List Prt} {st : List Bool × List Prt × Bool} {i : Nat} {p : Prt} (hp : ps[i]? = some p) (h1 : st.1[i]? = some false) (h2 : helpsB first st.2.1 p = true) : passStep first ps st i = (st.1.set i true, st.2.1 ++ [p], true) := by
  unfold passStep; rw [hp]; exact if_pos ⟨h1, h2⟩
theorem passStep_leave {first : List ByteArray} {ps : List Prt} {st : List Bool × List Prt × Bool} {i : Nat} {p : Prt} (hp : ps[i]? = some p) (h : st.1[i]? = some true ∨ helpsB first st.2.1 p = false) : passStep first ps st i = st := by
  unfold passStep; rw [hp]; refine if_neg ?_
  rintro ⟨h1, h2⟩
  rcases h with h | h
  · rw [h] at h1; cases h1
  · rw [h] at h2; cases h2
/-- An archive, pass by pass; n passes at most. -/
def archN (first : List ByteArray) (ps : List Prt) : Nat → List Bool → List Prt → List Prt
  | 0, _, o => o
  | n + 1, t, o => if (passTo first ps t o ps.length).2.2 then archN first ps n (passTo first ps t o ps.length).1 (passTo first ps t o ps.length).2.1 else (passTo first ps t o ps.length).2.1
def archP (first : List ByteArray) (ps : List Prt) (o : List Prt) : List Prt := archN first ps (ps.length + 1) (List.replicate ps.length false) o
def itemStep (first : List ByteArray) (o : List Prt) (x : Itm) : List Prt := if x.arch then archP first x.ps o else o ++ x.ps.take 1
def chosenP (l : List Itm) (first : List ByteArray) : List Prt := l.foldl (itemStep first) []
theorem chosen_take {l : List Itm} {first : List ByteArray} {k : Nat} {x : Itm} (h : l[k]? = some x) : chosenP (l.take (k + 1)) first = itemStep first (chosenP (l.take k) first) x := by
  unfold chosenP
  rw [List.take_add_one, h, List.foldl_append]
  rfl
def chooseE (l : List Itm) (first : List ByteArray) : Int :=
  if ckItems l ≠ 0 then ckItems l else if 12 < first.length then 2 else if first.any (fun s => !nameB s) then 1 else 0
def chooseP (l : List Itm) (first : List ByteArray) : List Prt × Int := if chooseE l first ≠ 0 then ([], chooseE l first) else (chosenP l first, 0)

def falses (t : List Bool) : Nat := t.countP (fun b => b == false)
theorem falses_set {t : List Bool} {i : Nat} (h : t[i]? = some false) : falses (t.set i true) + 1 = falses t := by
  unfold falses
  induction t generalizing i with
  | nil => simp at h
  | cons a r ih =>
    cases i with
    | zero => simp at h; subst h; simp
    | succ i =>
      simp only [List.getElem?_cons_succ] at h
      simp only [List.set_cons_succ, List.countP_cons]
      have := ih h
      omega
/-- What a pass does: how many are taken. -/
theorem passTo_count (first : List ByteArray) (ps : List Prt) (t : List Bool) (o : List Prt) (ht : t.length = ps.length) : ∀ k, k ≤ ps.length →
    (passTo first ps t o k).1.length = ps.length ∧ (passTo first ps t o k).2.1.length + falses (passTo first ps t o k).1 = o.length + falses t ∧ ((passTo first ps t o k).2.2 = true ↔ o.length < (passTo first ps t o k).2.1.length) ∧ o.length ≤ (passTo first ps t o k).2.1.length
  | 0, _ => ⟨ht, rfl, by rw [passTo_zero]; simp, Nat.le_refl _⟩
  | k + 1, hk => by
    obtain ⟨h1, h2, h3, h4⟩ := passTo_count first ps t o ht k (by omega)
    rw [passTo_succ]
    obtain ⟨p, hp⟩ : ∃ p, ps[k]? = some p := ⟨_, List.getElem?_eq_getElem (by omega)⟩
    by_cases hc : (passTo first ps t o k).1[k]? = some false ∧ helpsB first (passTo first ps t o k).2.1 p = true
    · rw [passStep_take hp hc.1 hc.2]
      have := falses_set hc.1
      simp only [List.length_set, List.length_append, List.length_singleton]
      exact ⟨h1, by omega, by simp; omega, by omega⟩
    · have e : passStep first ps (passTo first ps t o k) k = passTo first ps t o k := by
        unfold passStep; rw [hp]; exact if_neg hc
      rw [e]
      exact ⟨h1, h2, h3, h4⟩

/-! ### sets -/
theorem mem_wantS_snoc {first : List ByteArray} {out : List Prt} {p : Prt} (x : ByteArray) : x ∈ wantS first (out ++ [p]) ↔ x ∈ wantedP p ++ wantS first out := by
  unfold wantS
  simp only [List.flatMap_append, List.mem_append, List.flatMap_cons, List.flatMap_nil, List.append_nil]
  constructor
  · rintro (h | h | h)
    · exact .inr (.inl h)
    · exact .inr (.inr h)
    · exact .inl h
  · rintro (h | h | h)
    · exact .inr (.inr h)
    · exact .inl h
    · exact .inr (.inl h)
theorem mem_haveS_snoc {out : List Prt} {p : Prt} (x : ByteArray) : x ∈ haveS (out ++ [p]) ↔ x ∈ definedP p ++ haveS out := by
  unfold haveS
  simp only [List.flatMap_append, List.mem_append, List.flatMap_cons, List.flatMap_nil, List.append_nil]
  exact Or.comm
theorem helpD_congr {W D W' D' : List ByteArray} (hW : ∀ x, x ∈ W ↔ x ∈ W') (hD : ∀ x, x ∈ D ↔ x ∈ D') (d : Df) : helpD W D d = helpD W' D' d := by
  unfold helpD
  rw [decide_eq_decide.2 (hW d.name), decide_eq_decide.2 (hD d.name)]
/-! ### names are short -/
theorem nameB_short {s : ByteArray} (h : nameB s = true) : s.size ≤ 8 := by
  unfold nameB at h
  simp only [Bool.and_eq_true, decide_eq_true_eq] at h
  exact h.1.2
theorem ckRels_name {many nb : Int} : ∀ {l : List Rel} {last : Int}, ckRels many nb last l = 0 → ∀ r ∈ l, r.name.size ≠ 0 → nameB r.name = true
  | [], _, _, r, hr, _ => by cases hr
  | a :: l, last, h, r, hr, hn => by
    rw [ckRels] at h
    split at h
    · rename_i h1; exact absurd h h1
    · rename_i h1
      rcases List.mem_cons.1 hr with rfl | hr
      · have h2 : ckRel many nb last r = 0 := Decidable.not_not.1 h1
        unfold ckRel at h2
        by_cases hw : wideOf r.kind = 0 ∨ r.at_ < last ∨ nb - wideOf r.kind < r.at_ ∨ r.add < -10000 ∨ 10000 < r.add
        · rw [if_pos hw] at h2; cases h2
        · rw [if_neg hw, if_neg hn] at h2
          by_cases h4 : nameB r.name = false ∨ r.frag ≠ 0
          · rw [if_pos h4] at h2; cases h2
          · rcases hb : nameB r.name with _ | _
            · exact absurd (.inl hb) h4
            · rfl
      · exact ckRels_name h r hr hn
theorem def_name {p : Prt} (hc : ckPart p = 0) {d : Df} (hd : d ∈ p.dfs) : nameB d.name = true := by
  have h := ((ok_iff p).1 hc).df d hd
  unfold ckDef at h
  split at h
  · cases h
  · rename_i h1
    simpa using h1
theorem wanted_short {p : Prt} (hc : ckPart p = 0) {s : ByteArray} (hs : s ∈ wantedP p) : s.size ≤ 8 := by
  unfold wantedP at hs
  obtain ⟨f, hf, hs⟩ := List.mem_flatMap.1 (setS_mem.1 hs)
  unfold wantedF at hs
  obtain ⟨r, hr, rfl⟩ := List.mem_map.1 hs
  obtain ⟨hr, hn⟩ := List.mem_filter.1 hr
  exact nameB_short (ckRels_name (ckFrag_rels (((ok_iff p).1 hc).fr f hf)) r hr (by simpa using hn))
theorem defined_short {p : Prt} (hc : ckPart p = 0) {s : ByteArray} (hs : s ∈ definedP p) : s.size ≤ 8 := by
  unfold definedP at hs
  obtain ⟨d, hd, rfl⟩ := List.mem_map.1 (setS_mem.1 hs)
  exact nameB_short (def_name hc hd)
theorem flatMap_le {α β : Type} {f : α → List β} {c : Nat} : ∀ (l : List α), (∀ x ∈ l, (f x).length ≤ c) → (l.flatMap f).length ≤ l.length * c
  | [], _ => by simp
  | x :: r, h => by
    rw [List.flatMap_cons, List.length_append, List.length_cons, Nat.succ_mul]
    have := h x (by simp)
    have := flatMap_le r (fun y hy => h y (by simp [hy]))
    omega
theorem frag_rels8 {many : Int} {f : Frg} (h : ckFrag many f = 0) : f.rs.length ≤ 8 := by
  unfold ckFrag at h
  split at h
  · cases h
  · split at h
    · cases h
    · split at h
      · cases h
      · rename_i h3; omega
theorem wanted_few {p : Prt} (hc : ckPart p = 0) : (wantedP p).length ≤ 480 := by
  have h := (ok_iff p).1 hc
  have h1 := setS_len (p.frs.flatMap wantedF)
  have h2 := flatMap_le (f := wantedF) (c := 8) p.frs (fun f hf => by
    unfold wantedF
    rw [List.length_map]
    exact Nat.le_trans (List.length_filter_le _ _) (frag_rels8 (h.fr f hf)))
  have := h.n1
  unfold wantedP
  omega
theorem defined_few {p : Prt} (hc : ckPart p = 0) : (definedP p).length ≤ 60 := by
  have h := (ok_iff p).1 hc
  have h1 := setS_len (p.dfs.map Df.name)
  rw [List.length_map] at h1
  have := h.n2
  unfold definedP
  omega
end Go.Proofs.Ytbhjdinjoonngaa

/- archive.Choose: what lies in memory: items; what two sets of names leave as it was. -/
namespace Go.Proofs.Ytbhjdinjoonngaa
open Go.RowKit

theorem strsV_get {l : List ByteArray} {k : Nat} {s : ByteArray} (h : l[k]? = some s) : (strsV l)[k]? = some (.string s) := by unfold strsV; rw [List.getElem?_map, h]; rfl
/-- An item, and where it lies. -/
structure ItM where
  arch : Bool
  ps : List PtM
  pa : Option Addr
  pc : Nat
def ItM.er (x : ItM) : Itm := ⟨x.arch, x.ps.map PtM.er⟩
def ItM.cells (x : ItM) : List Value := [.bool x.arch, .slice x.pa x.ps.length x.pc]
def itsV (l : List ItM) : List Value := l.flatMap ItM.cells
structure ItM.Good (w : World) (B : Nat) (x : ItM) : Prop where
  ps : PtsAt w B x.pa x.ps
  pm : x.ps.length ≤ 9223372036854775807
structure ItsAt (w : World) (B : Nat) (A : Option Addr) (l : List ItM) : Prop where
  row : Reads w B 2 A l.length (itsV l)
  each : ∀ x ∈ l, x.Good w B
theorem ItM.Good.keep {w w' : World} {B B' : Nat} {x : ItM} (h : x.Good w B) (hb : Below B w w') (hB : B ≤ B') : x.Good w' B' := ⟨h.ps.keep hb hB, h.pm⟩
theorem ItsAt.keep {w w' : World} {B B' : Nat} {A : Option Addr} {l : List ItM} (h : ItsAt w B A l) (hb : Below B w w') (hB : B ≤ B') : ItsAt w' B' A l := ⟨(h.row.below hb).more hB, fun x hx => (h.each x hx).keep hb hB⟩
theorem ItsAt.all {w w' : World} {A : Option Addr} {l : List ItM} (h : ItsAt w w.heap.size A l) (hb : Below w.heap.size w w') : ItsAt w' w'.heap.size A l := h.keep hb hb.size
theorem it_get {w : World} {B : Nat} {A : Option Addr} {l : List ItM} (h : Reads w B 2 A l.length (itsV l)) {i : Nat} {x : ItM} (hx : l[i]? = some x) :
    ∃ b off, A = some ⟨b, off, none⟩ ∧ b < B ∧ w.cell? ⟨b, off + i * 2, none⟩ = some (.bool x.arch) ∧ w.cell? ⟨b, off + i * 2 + 1, none⟩ = some (.slice x.pa x.ps.length x.pc) := by
  obtain ⟨b, off, e, hb, hc⟩ := cells_get (cells := ItM.cells) (fun _ => rfl) h hx
  exact ⟨b, off, e, hb, hc 0 _ rfl, hc 1 _ rfl⟩

section
variable {w w' : World} {g n : Nat} {S : List ByteArray}
theorem SetIs.isMap (h : SetIs w g n S) : ∃ es c, w.heap[g]? = some (.map es c) := let ⟨_, ⟨es, c, hb, _⟩, _⟩ := h; ⟨es, c, hb⟩
theorem SetIs.ne_own (h : SetIs w g n S) {base size m : Nat} {e : TypeId} {v : Value} {xs : List Value} (ho : w.ownsRow base e size v m xs) : v.ownBlock ≠ some g := by
  obtain ⟨es, c, hm⟩ := h.isMap
  rcases ho.2 with ⟨rfl, _⟩ | ⟨g', cap, cur, rfl, _, hh, _⟩
  · simp [Value.ownBlock]
  · intro he
    have : g' = g := by simpa [Value.ownBlock] using he
    subst this
    rw [hm] at hh
    cases hh
theorem SetIs.ne_blk (h : SetIs w g n S) {g' : Nat} {t : TypeId} {cs : Array Value} (hb : Blk w g' t cs) : g' ≠ g := by
  obtain ⟨es, c, hm⟩ := h.isMap
  rintro rfl
  unfold Blk at hb
  rw [hm] at hb
  cases hb
theorem SetIs.own (h : SetIs w g n S) {base size m : Nat} {e : TypeId} {v : Value} {xs : List Value} (ho : w.ownsRow base e size v m xs) (hg : w.grownBy w' (some g)) : w'.ownsRow base e size v m xs := ho.kept hg (.inr (h.ne_own ho))
theorem SetIs.fgOwn (h : SetIs w g n S) {base : Nat} {x : FgM} (ho : x.Own w base) (hg : w.grownBy w' (some g)) : x.Own w' base := ⟨h.own ho.by_ hg, h.own ho.re hg⟩
theorem SetIs.ptOwn (h : SetIs w g n S) {base : Nat} {p : PtM} (ho : p.Own w base) (hg : w.grownBy w' (some g)) : p.Own w' base := ⟨h.own ho.fr hg, h.own ho.df hg, fun x hx => h.fgOwn (ho.each x hx) hg, ho.apart⟩
theorem SetIs.ev (h : SetIs w g n S) {w0 : World} {base : Nat} {z : Value} {qs : List PtM} (he : EV w0 w base z qs) (hB : base ≤ g) (hg : w.grownBy w' (some g)) : EV w0 w' base z qs :=
  ⟨h.own he.hz hg, fun q hq => h.ptOwn (he.each q hq) hg, he.hB.grown hg he.hb (fun g' hg' => by injection hg' with hg'; omega), Nat.le_trans he.hb hg.size⟩
theorem SetIs.row (h : SetIs w g n S) {base size m : Nat} {e : TypeId} {v : Value} {xs : List Value} (ho : w.ownsRow base e size v m xs) (hg : w.grownBy w' v.ownBlock) : SetIs w' g n S := h.kept hg (Ne.symm (h.ne_own ho))
theorem SetIs.set_ (h : SetIs w g n S) {g' : Nat} {t : TypeId} {cs : Array Value} (hb : Blk w g' t cs) (j : Nat) (u : Value) : SetIs (w.setCell ⟨g', j, none⟩ u) g n S :=
  h.kept (row := some g') ⟨rfl, rfl, rfl, by simp [World.setCell], fun i _ hne => Below.heap_setCell w _ u i (fun e => hne (by rw [e]))⟩ (fun e => h.ne_blk hb (by injection e with e; exact e.symm))
theorem SetIs.blk (h : SetIs w g n S) {g' : Nat} {t : TypeId} {cs : Array Value} (hb : Blk w g' t cs) (hg : w.grownBy w' (some g)) : Blk w' g' t cs := hb.grown hg (fun e => h.ne_blk hb (by injection e))
end

/-- Where some parts are taken: two sets of names, in a state of the call's own. -/
structure StIs (w : World) (gS gW gD nW nD : Nat) (first : List ByteArray) (out : List Prt) : Prop where
  st : Blk w gS 161 #[.map (some gW), .map (some gD)]
  ne : gW ≠ gD
  hw : SetIs w gW nW (wantS first out)
  hd : SetIs w gD nD (haveS out)
section
variable {w w' : World} {gS gW gD nW nD : Nat} {first : List ByteArray} {out : List Prt}
theorem StIs.all (h : StIs w gS gW gD nW nD first out) (hb : Below w.heap.size w w') : StIs w' gS gW gD nW nD first out := ⟨h.st.all hb, h.ne, h.hw.all hb, h.hd.all hb⟩
theorem StIs.alloc (h : StIs w gS gW gD nW nD first out) (o : Obj) : StIs (w.alloc o) gS gW gD nW nD first out := h.all ((Below.refl _ _).alloc (Nat.le_refl _) _)
theorem StIs.drew (h : StIs w gS gW gD nW nD first out) : StIs w.drew gS gW gD nW nD first out := ⟨h.st, h.ne, h.hw, h.hd⟩
theorem StIs.row (h : StIs w gS gW gD nW nD first out) {base size m : Nat} {e : TypeId} {v : Value} {xs : List Value} (ho : w.ownsRow base e size v m xs) (hg : w.grownBy w' v.ownBlock) (hne : e ≠ 161) : StIs w' gS gW gD nW nD first out :=
  ⟨h.st.grown hg (Ne.symm (own_blk_ne ho h.st hne)), h.ne, h.hw.row ho hg, h.hd.row ho hg⟩
theorem StIs.set_ (h : StIs w gS gW gD nW nD first out) {g' : Nat} {t : TypeId} {cs : Array Value} (hb : Blk w g' t cs) (hne : 161 ≠ t) (j : Nat) (u : Value) : StIs (w.setCell ⟨g', j, none⟩ u) gS gW gD nW nD first out :=
  ⟨h.st.far (h.st.ne_ hb hne) u, h.ne, h.hw.set_ hb j u, h.hd.set_ hb j u⟩
end
/-- What a change of two blocks leaves. -/
def TwoBy (w w' : World) (g1 g2 : Nat) : Prop := ∃ wm, w.grownBy wm (some g1) ∧ wm.grownBy w' (some g2)
section
variable {w w' : World} {gS gW gD nW nD nW' nD' : Nat} {first : List ByteArray} {out out' : List Prt}
theorem TwoBy.size {g1 g2 : Nat} (h : TwoBy w w' g1 g2) : w.heap.size ≤ w'.heap.size := let ⟨_, h1, h2⟩ := h; Nat.le_trans h1.size h2.size
theorem TwoBy.below {g1 g2 B : Nat} (h : TwoBy w w' g1 g2) (h1 : B ≤ g1) (h2 : B ≤ g2) (hB : B ≤ w.heap.size) : Below B w w' := by
  obtain ⟨wm, a, b⟩ := h
  exact ((Below.refl B w).grown a hB (fun g hg => by injection hg with hg; omega)).grown b (Nat.le_trans hB a.size) (fun g hg => by injection hg with hg; omega)
theorem StIs.two_ev (h : StIs w gS gW gD nW nD first out) (ht : TwoBy w w' gW gD) {w0 : World} {base : Nat} {z : Value} {qs : List PtM} (he : EV w0 w base z qs) (h1 : base ≤ gW) (h2 : base ≤ gD) : EV w0 w' base z qs := by
  obtain ⟨wm, a, b⟩ := ht
  exact (h.hd.kept a (fun e => h.ne (by injection e with e; exact e.symm))).ev (h.hw.ev he h1 a) h2 b
theorem StIs.two_blk (h : StIs w gS gW gD nW nD first out) (ht : TwoBy w w' gW gD) {g' : Nat} {t : TypeId} {cs : Array Value} (hb : Blk w g' t cs) : Blk w' g' t cs := by
  obtain ⟨wm, a, b⟩ := ht
  exact (h.hd.kept a (fun e => h.ne (by injection e with e; exact e.symm))).blk (h.hw.blk hb a) b
end
end Go.Proofs.Ytbhjdinjoonngaa

/- archive.Check, state.take, state.helps: what they compute. -/
namespace Go.Proofs.Ytbhjdinjoonngaa
open Go.RowKit

/-! ### archive.Check -/
set_option maxHeartbeats 8000000 in
set_option maxRecDepth 100000 in
theorem arcCheck_any (A : Option Addr) (c : Nat) (l : List ItM) (w : World) (h : ItsAt w w.heap.size A l) (hlm : l.length ≤ 9223372036854775807) :
    Calls Try.prog 85 #[.slice A l.length c] w fun e w' => e = .returned (.int .i64 (ckItems (l.map ItM.er))) ∧ Below w.heap.size w w' := by
  have hrow := h.row
  have HE := Lib.hid h.each
  clear h
  by_cases h12 : 12 < l.length
  · have HM := Lib.hid (ckItems_many (l := l.map ItM.er) (by rw [List.length_map]; exact h12))
    have q1 : decide ((12 : Int) < (l.length : Int)) = true := decide_eq_true (by omega)
    have q2 : decide (12 < l.length) = true := decide_eq_true h12
    clear h12
    go_enter Try.func85, Try.ntmps85
    go_wp2
    go_ret
    exact ⟨ret_int (by rw [HM.out]), Below.refl _ _⟩
  · have HF := Lib.hid (ckItems_few (l := l.map ItM.er) (by rw [List.length_map]; exact h12))
    have q1 : decide ((12 : Int) < (l.length : Int)) = false := decide_eq_false (by omega)
    have q2 : decide (12 < l.length) = false := decide_eq_false h12
    clear h12
    go_enter Try.func85, Try.ntmps85
    go_wp2_with fail
    go_loopw [13] (fun i wr => ∃ k : Nat, k ≤ l.length ∧ i = .int .i64 k ∧ Hid (firstBad ((l.map ItM.er).map ckItem) = firstBad (((l.map ItM.er).map ckItem).drop k)) ∧ Below w.heap.size w wr) (fun i _ => l.length - (intOf i).toNat)
    case atStart => exact ⟨0, Nat.zero_le _, rfl, Lib.hid rfl, Below.refl _ _⟩
    case round =>
      obtain ⟨k, hk, rfl, hfb, hb⟩ := hrel
      by_cases hlt : k < l.length
      · obtain ⟨x, hx⟩ : ∃ x, l[k]? = some x := ⟨_, List.getElem?_eq_getElem hlt⟩
        obtain ⟨b, off, rfl, bl, c0, c1⟩ := it_get (hrow.below hb) hx
        have hg := (HE.out x (List.mem_of_getElem? hx)).keep hb hb.size
        have hck : ((l.map ItM.er).map ckItem)[k]? = some (ckItem x.er) := by rw [List.getElem?_map, List.getElem?_map, hx]; rfl
        have HCK := Lib.hid hck
        clear hx hck
        go_upto_region 6 with (fail)
        have kX := Blk.new wr 70 #[.bool x.arch, .slice x.pa x.ps.length x.pc]
        have hbx : Below wr.heap.size wr (wr.alloc (.cells #[.bool x.arch, .slice x.pa x.ps.length x.pc] 70)) := by (repeat' (first | exact Below.refl _ _ | assumption | refine Below.setCell ?_ (by first | omega | exact Below.size (by assumption) | (simp; done) | (simp; omega)) _ | refine Below.alloc ?_ (by first | omega | exact Below.size (by assumption) | (simp; done) | (simp; omega)) _ | refine Below.drew ?_ | refine below_drewN ?_ _))
        replace hg := hg.keep hbx hbx.size
        replace hb := hb.trans (hbx.mono hb.size)
        obtain ⟨gX, hgX⟩ : ∃ g, g = wr.heap.size := ⟨_, rfl⟩
        obtain ⟨W, hW⟩ : ∃ W, W = wr.alloc (.cells #[.bool x.arch, .slice x.pa x.ps.length x.pc] 70) := ⟨_, rfl⟩
        rw [← hgX] at kX ⊢
        rw [← hW] at kX hg hb ⊢
        clear hW hgX hbx c0 c1
        have x0 := kX.cell 0
        have x1 := kX.cell 1
        by_cases h8 : 8 < x.ps.length
        · have HR := Lib.hid (hfb.out.trans (firstBad_drop (HCK.out.trans (by rw [ckItem_many (by simpa [ItM.er] using h8)])) (by decide : (2 : Int) ≠ 0)))
          have q3 : decide ((8 : Int) < (x.ps.length : Int)) = true := decide_eq_true (by omega)
          have q4 : decide (8 < x.ps.length) = true := decide_eq_true h8
          clear h8
          go_wp2
          go_ret
          exact ⟨ret_int (by rw [HF.out, HR.out]), hb⟩
        · have q3 : decide ((8 : Int) < (x.ps.length : Int)) = false := decide_eq_false (by omega)
          have q4 : decide (8 < x.ps.length) = false := decide_eq_false h8
          by_cases h1 : x.arch = false ∧ x.ps.length ≠ 1
          · have HR := Lib.hid (hfb.out.trans (firstBad_drop (HCK.out.trans (by rw [ckItem_form (by simpa [ItM.er] using h8) h1.1 (by simpa [ItM.er] using h1.2)])) (by decide : (4 : Int) ≠ 0)))
            have q5 : ((x.ps.length : Int) != 1) = true := by simp; omega
            rw [h1.1] at x0
            clear h8 h1
            go_wp2
            go_ret
            exact ⟨ret_int (by rw [HF.out, HR.out]), hb⟩
          · have HP := Lib.hid (ckItem_parts (x := x.er) (by simpa [ItM.er] using h8) (by simpa [ItM.er] using h1))
            have h8' : x.ps.length ≤ 8 := by omega
            obtain ⟨ar, har⟩ : ∃ a, x.arch = a := ⟨_, rfl⟩
            rw [har] at h1 x0
            have HAR := Lib.hid har
            clear h8 har
            have hprow := hg.ps.row
            have HG := Lib.hid hg.ps.each
            have HB := Lib.hid hb
            clear hg
            obtain ⟨q6, hq6⟩ : ∃ t, t = ((x.ps.length : Int) != 1) := ⟨_, rfl⟩
            have q7 : (!ar && q6) = false := by
              rcases ar with _ | _
              · have : x.ps.length = 1 := by
                  by_cases e : x.ps.length = 1
                  · exact e
                  · exact absurd ⟨rfl, e⟩ h1
                rw [hq6, this]; rfl
              · rfl
            clear h1
            rcases ar with _ | _
            · have q8 : ((x.ps.length : Int) != 1) = false := by
                rw [← hq6]; simpa using q7
              clear hq6 q7
              (go_wp2_with fail; clear x0 x1; go_loopw [33] (fun i wx => ∃ j : Nat, j ≤ x.ps.length ∧ i = .int .i64 j ∧ Hid (firstBad ((x.ps.map PtM.er).map ckPart) = firstBad (((x.ps.map PtM.er).map ckPart).drop j)) ∧ Below W.heap.size W wx) (fun i _ => x.ps.length - (intOf i).toNat); (case atStart => exact ⟨0, Nat.zero_le _, rfl, Lib.hid rfl, Below.refl _ _⟩); (case round => clear hb; obtain ⟨j, hj, rfl, hfj, hb⟩ := hrel; by_cases hjl : j < x.ps.length; (focus (obtain ⟨p, hpj⟩ : ∃ p, x.ps[j]? = some p := ⟨_, List.getElem?_eq_getElem hjl⟩; obtain ⟨b', off', hxa, bl', d0, d1⟩ := pt_get (hprow.below hb) hpj; have hpA := (HG.out p (List.mem_of_getElem? hpj)).keep hb hb.size; have hcj : ((x.ps.map PtM.er).map ckPart)[j]? = some (ckPart p.er) := (by rw [List.getElem?_map, List.getElem?_map, hpj]; rfl); have HCJ := Lib.hid hcj; have hs0 : Below wr.heap.size wr (wr.alloc (.cells #[.slice (p).fa (p).frs.length (p).fc, .slice (p).da (p).dfs.length (p).dc] 44)) := (by (repeat' (first | exact Below.refl _ _ | assumption | refine Below.setCell ?_ (by first | omega | exact Below.size (by assumption) | (simp; done) | (simp; omega)) _ | refine Below.alloc ?_ (by first | omega | exact Below.size (by assumption) | (simp; done) | (simp; omega)) _ | refine Below.drew ?_ | refine below_drewN ?_ _))); rw [hxa]; clear hpj hcj hxa; go_wp2_with fail; refine (check_any p _ (hpA.all hs0)).mono ?_; rintro e w2 ⟨rfl, hb2⟩; have hb3 := hb.trans ((hs0.trans (hb2.mono hs0.size)).mono hb.size); clear d0 d1 hb2 hs0; obtain ⟨n, hn⟩ : ∃ n, ckPart p.er = n := ⟨_, rfl⟩; rw [hn] at HCJ ⊢; clear hn; by_cases hn0 : n = 0; (focus (subst hn0; have hfj2 : Hid (firstBad ((x.ps.map PtM.er).map ckPart) = firstBad (((x.ps.map PtM.er).map ckPart).drop (j + 1))) := hfj.out.trans (firstBad_next HCJ.out); go_wp2; go_roundw; (case rel => exact ⟨j + 1, by omega, by go_num, hfj2, hb3⟩); (case measure => simp [intOf]; omega))); (focus (have HR := Lib.hid (hfb.out.trans (firstBad_drop (HCK.out.trans (by rw [HP.out]; exact congrArg some (hfj.out.trans (firstBad_drop HCJ.out hn0)))) hn0)); have t1 : (n != 0) = true := (by simpa using hn0); clear hn0; go_wp2; go_ret; exact ⟨ret_int (by rw [HF.out, HR.out]), HB.out.trans (hb3.mono HB.out.size)⟩)))); (focus (obtain rfl : j = x.ps.length := (by omega); have HN : Hid (firstBad ((l.map ItM.er).map ckItem) = firstBad (((l.map ItM.er).map ckItem).drop (k + 1))) := hfb.out.trans (firstBad_next (HCK.out.trans (by rw [HP.out]; exact congrArg some (hfj.out.trans (firstBad_end (by simp)))))); go_wp2; go_roundw; (case rel => exact ⟨k + 1, by omega, by go_num, HN, HB.out.trans (hb.mono HB.out.size)⟩); (case measure => simp [intOf]; omega)))))
            · clear hq6 q7
              (go_wp2_with fail; clear x0 x1; go_loopw [33] (fun i wx => ∃ j : Nat, j ≤ x.ps.length ∧ i = .int .i64 j ∧ Hid (firstBad ((x.ps.map PtM.er).map ckPart) = firstBad (((x.ps.map PtM.er).map ckPart).drop j)) ∧ Below W.heap.size W wx) (fun i _ => x.ps.length - (intOf i).toNat); (case atStart => exact ⟨0, Nat.zero_le _, rfl, Lib.hid rfl, Below.refl _ _⟩); (case round => clear hb; obtain ⟨j, hj, rfl, hfj, hb⟩ := hrel; by_cases hjl : j < x.ps.length; (focus (obtain ⟨p, hpj⟩ : ∃ p, x.ps[j]? = some p := ⟨_, List.getElem?_eq_getElem hjl⟩; obtain ⟨b', off', hxa, bl', d0, d1⟩ := pt_get (hprow.below hb) hpj; have hpA := (HG.out p (List.mem_of_getElem? hpj)).keep hb hb.size; have hcj : ((x.ps.map PtM.er).map ckPart)[j]? = some (ckPart p.er) := (by rw [List.getElem?_map, List.getElem?_map, hpj]; rfl); have HCJ := Lib.hid hcj; have hs0 : Below wr.heap.size wr (wr.alloc (.cells #[.slice (p).fa (p).frs.length (p).fc, .slice (p).da (p).dfs.length (p).dc] 44)) := (by (repeat' (first | exact Below.refl _ _ | assumption | refine Below.setCell ?_ (by first | omega | exact Below.size (by assumption) | (simp; done) | (simp; omega)) _ | refine Below.alloc ?_ (by first | omega | exact Below.size (by assumption) | (simp; done) | (simp; omega)) _ | refine Below.drew ?_ | refine below_drewN ?_ _))); rw [hxa]; clear hpj hcj hxa; go_wp2_with fail; refine (check_any p _ (hpA.all hs0)).mono ?_; rintro e w2 ⟨rfl, hb2⟩; have hb3 := hb.trans ((hs0.trans (hb2.mono hs0.size)).mono hb.size); clear d0 d1 hb2 hs0; obtain ⟨n, hn⟩ : ∃ n, ckPart p.er = n := ⟨_, rfl⟩; rw [hn] at HCJ ⊢; clear hn; by_cases hn0 : n = 0; (focus (subst hn0; have hfj2 : Hid (firstBad ((x.ps.map PtM.er).map ckPart) = firstBad (((x.ps.map PtM.er).map ckPart).drop (j + 1))) := hfj.out.trans (firstBad_next HCJ.out); go_wp2; go_roundw; (case rel => exact ⟨j + 1, by omega, by go_num, hfj2, hb3⟩); (case measure => simp [intOf]; omega))); (focus (have HR := Lib.hid (hfb.out.trans (firstBad_drop (HCK.out.trans (by rw [HP.out]; exact congrArg some (hfj.out.trans (firstBad_drop HCJ.out hn0)))) hn0)); have t1 : (n != 0) = true := (by simpa using hn0); clear hn0; go_wp2; go_ret; exact ⟨ret_int (by rw [HF.out, HR.out]), HB.out.trans (hb3.mono HB.out.size)⟩)))); (focus (obtain rfl : j = x.ps.length := (by omega); have HN : Hid (firstBad ((l.map ItM.er).map ckItem) = firstBad (((l.map ItM.er).map ckItem).drop (k + 1))) := hfb.out.trans (firstBad_next (HCK.out.trans (by rw [HP.out]; exact congrArg some (hfj.out.trans (firstBad_end (by simp)))))); go_wp2; go_roundw; (case rel => exact ⟨k + 1, by omega, by go_num, HN, HB.out.trans (hb.mono HB.out.size)⟩); (case measure => simp [intOf]; omega)))))
      · obtain rfl : k = l.length := by omega
        have HR := Lib.hid (hfb.out.trans (firstBad_end (by simp)))
        go_wp2
        go_ret
        exact ⟨ret_int (by rw [HF.out, HR.out]), hb⟩

/-! ### state.take -/
set_option maxHeartbeats 8000000 in
set_option maxRecDepth 100000 in
theorem take_any (p : PtM) (B gS gW gD nW nD : Nat) (first : List ByteArray) (out : List Prt) (w : World) (h : p.At w B) (hB : B ≤ w.heap.size) (hBW : B ≤ gW) (hBD : B ≤ gD) (hc : ckPart p.er = 0) (hS : StIs w gS gW gD nW nD first out) (hn : nW ≤ 100000) (hn' : nD ≤ 100000) :
    Calls Try.prog 89 #[.pointer (some ⟨gS, 0, none⟩), .agg #[.slice p.fa p.frs.length p.fc, .slice p.da p.dfs.length p.dc]] w fun e w' => e = .returned (.tuple #[]) ∧ StIs w' gS gW gD (nW + 480) (nD + 60) first (out ++ [p.er]) ∧ TwoBy w w' gW gD := by
  have kP := Blk.new w 44 #[.slice p.fa p.frs.length p.fc, .slice p.da p.dfs.length p.dc]
  have hb : Below w.heap.size w (w.alloc (.cells #[.slice (p).fa (p).frs.length (p).fc, .slice (p).da (p).dfs.length (p).dc] 44)) := by (repeat' (first | exact Below.refl _ _ | assumption | refine Below.setCell ?_ (by first | omega | exact Below.size (by assumption) | (simp; done) | (simp; omega)) _ | refine Below.alloc ?_ (by first | omega | exact Below.size (by assumption) | (simp; done) | (simp; omega)) _ | refine Below.drew ?_ | refine below_drewN ?_ _))
  have hS1 := hS.all hb
  have h1 := h.keep (hb.mono hB) (Nat.le_trans hB hb.size)
  have HC := Lib.hid hc
  have HWF := wanted_few hc
  have HDF := defined_few hc
  have HWS : Hid (∀ s ∈ wantedP p.er, s.size ≤ 8) := fun s hs => wanted_short hc hs
  have HDS : Hid (∀ s ∈ definedP p.er, s.size ≤ 8) := fun s hs => defined_short hc hs
  clear hc hS
  go_enter Try.func89, Try.ntmps89
  go_wp2_with fail
  refine (wanted_any p _ h1).mono ?_
  rintro e w1 ⟨v1, rfl, _, hv1, hb1⟩
  have hF := hv1 HC.out
  rw [HC.out]
  obtain ⟨A1, c1, rfl, hc1, _⟩ := own_form hF
  replace hS1 := hS1.all hb1
  replace kP := kP.all hb1
  have hb01 := hb.trans (hb1.mono hb.size)
  clear hb1 hv1 hb h1
  obtain ⟨l1, hl1⟩ : ∃ l, l = wantedP p.er := ⟨_, rfl⟩
  rw [← hl1] at hF HWF HWS ⊢
  have HL1 := Lib.hid hl1
  clear hl1
  go_wp2_with fail
  go_loopw [19] (fun i wr => ∃ k : Nat, k ≤ l1.length ∧ i = .int .i64 k ∧ SetIs wr gW (nW + k) (l1.take k ++ wantS first out) ∧ w1.grownBy wr (some gW)) (fun i _ => l1.length - (intOf i).toNat)
  case atStart => exact ⟨0, Nat.zero_le _, rfl, by simpa using hS1.hw, World.grownBy.refl _ _⟩
  case round =>
    obtain ⟨k, hk, rfl, hset, hg⟩ := hrel
    by_cases hlt : k < l1.length
    · obtain ⟨s, hs⟩ : ∃ s, l1[k]? = some s := ⟨_, List.getElem?_eq_getElem hlt⟩
      have hFr := Reads.of_own (hS1.hw.own hF hg)
      obtain ⟨b, off, u, rfl, bl, hu, hcu⟩ := hFr.at_ hlt
      rw [strsV_get hs] at hu
      injection hu with hu
      subst hu
      have s0 := (hS1.hw.blk hS1.st hg).cell 0
      have hs8 := HWS.out s (List.mem_of_getElem? hs)
      have HX : Hid (∀ x, x ∈ s :: (l1.take k ++ wantS first out) ↔ x ∈ l1.take (k + 1) ++ wantS first out) := fun x => by
        rw [List.take_add_one, hs]
        simp only [List.mem_cons, List.mem_append, Option.toList_some, List.not_mem_nil, or_false]
        constructor
        · rintro (h | h | h)
          · exact .inl (.inr h)
          · exact .inl (.inl h)
          · exact .inr h
        · rintro ((h | h) | h)
          · exact .inr (.inl h)
          · exact .inl h
          · exact .inr (.inr h)
      clear hs hFr
      go_wp2_with (at_mapUpdate; refine wpList_setPut _ rfl _ _ _ rfl gW (nW + k) _ hset rfl (by omega) s rfl rfl (by omega) ?_; intro w2 hs2 hg2)
      go_roundw
      case rel => exact ⟨k + 1, by omega, by go_num, hs2.ext HX.out, hg.trans hg2⟩
      case measure => simp [intOf]; omega
    · obtain rfl : k = l1.length := by omega
      have hS2 : SetIs wr gD nD (haveS out) := hS1.hd.kept hg (fun e => hS1.ne (by injection e with e; exact e.symm))
      have kP2 := hS1.hw.blk kP hg
      have kS2 := hS1.hw.blk hS1.st hg
      have hBr : Below B w wr := (hb01.mono hB).grown hg (Nat.le_trans hB hb01.size) (fun g hg' => by injection hg' with hg'; omega)
      have h2 := h.keep hBr (Nat.le_trans hB (Nat.le_trans hb01.size hg.size))
      have p0 := kP2.cell 0
      have p1 := kP2.cell 1
      rw [List.take_length] at hset
      have hset2 : SetIs wr gW (nW + 480) (wantS first (out ++ [p.er])) := (hset.mono (by omega)).ext fun x => by rw [mem_wantS_snoc, HL1.out]
      clear hset
      have hgw : w.grownBy wr (some gW) := (only_of_below hb01 _).trans hg
      have hne := hS1.ne
      clear hS1 kP hF hg hb01 hBr
      go_wp2_with fail
      refine (defined_any p _ h2).mono ?_
      rintro e w3 ⟨v3, rfl, _, hv3, hb3⟩
      have hG := hv3 HC.out
      rw [HC.out]
      obtain ⟨A3, c3, rfl, hc3, _⟩ := own_form hG
      replace hS2 := hS2.all hb3
      replace hset2 := hset2.all hb3
      replace kS2 := kS2.all hb3
      replace hgw := hgw.trans (only_of_below hb3 _)
      clear hb3 hv3 h2 kP2 p0 p1 hk hlt hc1
      obtain ⟨l2, hl2⟩ : ∃ l, l = definedP p.er := ⟨_, rfl⟩
      rw [← hl2] at hG HDF HDS ⊢
      have HL2 := Lib.hid hl2
      clear hl2
      go_wp2_with fail
      go_loopw [36] (fun i wx => ∃ k : Nat, k ≤ l2.length ∧ i = .int .i64 k ∧ SetIs wx gD (nD + k) (l2.take k ++ haveS out) ∧ w3.grownBy wx (some gD)) (fun i _ => l2.length - (intOf i).toNat)
      case atStart => exact ⟨0, Nat.zero_le _, rfl, by simpa using hS2, World.grownBy.refl _ _⟩
      case round =>
        obtain ⟨k, hk, rfl, hset, hg⟩ := hrel
        by_cases hlt : k < l2.length
        · obtain ⟨s, hs⟩ : ∃ s, l2[k]? = some s := ⟨_, List.getElem?_eq_getElem hlt⟩
          have hFr := Reads.of_own (hS2.own hG hg)
          obtain ⟨b, off, u, rfl, bl, hu, hcu⟩ := hFr.at_ hlt
          rw [strsV_get hs] at hu
          injection hu with hu
          subst hu
          have s0 := (hS2.blk kS2 hg).cell 1
          have hs8 := HDS.out s (List.mem_of_getElem? hs)
          have HX : Hid (∀ x, x ∈ s :: (l2.take k ++ haveS out) ↔ x ∈ l2.take (k + 1) ++ haveS out) := fun x => by
            rw [List.take_add_one, hs]
            simp only [List.mem_cons, List.mem_append, Option.toList_some, List.not_mem_nil, or_false]
            constructor
            · rintro (h | h | h)
              · exact .inl (.inr h)
              · exact .inl (.inl h)
              · exact .inr h
            · rintro ((h | h) | h)
              · exact .inr (.inl h)
              · exact .inl h
              · exact .inr (.inr h)
          clear hs hFr
          go_wp2_with (at_mapUpdate; refine wpList_setPut _ rfl _ _ _ rfl gD (nD + k) _ hset rfl (by omega) s rfl rfl (by omega) ?_; intro w2 hs2 hg2)
          go_roundw
          case rel => exact ⟨k + 1, by omega, by go_num, hs2.ext HX.out, hg.trans hg2⟩
          case measure => simp [intOf]; omega
        · obtain rfl : k = l2.length := by omega
          rw [List.take_length] at hset
          have hset3 : SetIs wr gD (nD + 60) (haveS (out ++ [p.er])) := (hset.mono (by omega)).ext fun x => by rw [mem_haveS_snoc, HL2.out]
          have hfin : StIs wr gS gW gD (nW + 480) (nD + 60) first (out ++ [p.er]) := ⟨hS2.blk kS2 hg, hne, hset2.kept hg (fun e => hne (by injection e)), hset3⟩
          have htw : TwoBy w wr gW gD := ⟨w3, hgw, hg⟩
          clear hset hset3 hset2 hS2 kS2 hG hg hgw
          go_wp2
          first | go_end0 | refine bodyPost_ret (results_none rfl _ _ _) rfl ?_
          exact ⟨rfl, hfin, htw⟩

/-! ### state.helps -/
theorem quiet_look {C : World → Prop} {o : Oper} {a : Act} {K : Act → Prop} (m x : Operand) (h : o.op = Op.lookup 72 m x false) (v : Value) (hv : ∀ w, C w → (Instr.lookup 72 (a.eval m) (a.eval x) false).run Try.prog w = .ok v w) (hk : K (a.put o.dst v)) : o.quiet Try.prog a C K :=
  ⟨v, fun w hw => by
    unfold Oper.quietAt
    have e := hv w hw
    simp [execOp, h, e, Result.andThen, Oper.quietUpon], hk⟩
set_option maxHeartbeats 8000000 in
set_option maxRecDepth 100000 in
theorem helps1_any (x : Df) (gB gS gW gD nW nD : Nat) (first : List ByteArray) (out : List Prt) (w : World) (kB : Blk w gB 159 #[.pointer (some ⟨gS, 0, none⟩)]) (hS : StIs w gS gW gD nW nD first out) (hx : x.name.size ≤ 8) :
    Calls Try.prog 134 #[.agg #[.string x.name, .int .i64 x.kind, .int .i64 x.frag, .int .i64 x.at_, .int .i64 x.size, .int .i64 x.align], .pointer (some ⟨gB, 0, none⟩)] w fun e w' => e = .returned (.bool (helpD (wantS first out) (haveS out) x)) ∧ Below w.heap.size w w' := by
  have hb : Below w.heap.size w (w.alloc (.cells #[.string x.name, .int .i64 x.kind, .int .i64 x.frag, .int .i64 x.at_, .int .i64 x.size, .int .i64 x.align] 78)) := by (repeat' (first | exact Below.refl _ _ | assumption | refine Below.setCell ?_ (by first | omega | exact Below.size (by assumption) | (simp; done) | (simp; omega)) _ | refine Below.alloc ?_ (by first | omega | exact Below.size (by assumption) | (simp; done) | (simp; omega)) _ | refine Below.drew ?_ | refine below_drewN ?_ _))
  have kX := Blk.new w 78 #[.string x.name, .int .i64 x.kind, .int .i64 x.frag, .int .i64 x.at_, .int .i64 x.size, .int .i64 x.align]
  replace kB := kB.all hb
  replace hS := hS.all hb
  obtain ⟨b1, hb1⟩ : ∃ b, decide (x.name ∈ wantS first out) = b := ⟨_, rfl⟩
  obtain ⟨b2, hb2⟩ : ∃ b, decide (x.name ∈ haveS out) = b := ⟨_, rfl⟩
  have HV : Hid (helpD (wantS first out) (haveS out) x = ((x.kind != 3) && (b1 && !b2))) := by show _ = _; unfold helpD; rw [hb1, hb2]
  have HSH := Lib.hid hS
  have s0 := hS.st.cell 0
  have s1 := hS.st.cell 1
  have HB1 := Lib.hid hb1
  have HB2 := Lib.hid hb2
  clear hb1 hb2 hS
  go_enter Try.func134, Try.ntmps134
  go_upto_region 1 with (fail)
  obtain ⟨W, hW⟩ : ∃ W, W = w.alloc (.cells #[.string x.name, .int .i64 x.kind, .int .i64 x.frag, .int .i64 x.at_, .int .i64 x.size, .int .i64 x.align] 78) := ⟨_, rfl⟩
  obtain ⟨gX, hgX⟩ : ∃ g, g = w.heap.size := ⟨_, rfl⟩
  rw [show Blk (w.alloc (.cells #[.string x.name, .int .i64 x.kind, .int .i64 x.frag, .int .i64 x.at_, .int .i64 x.size, .int .i64 x.align] 78)) w.heap.size = Blk W gX by rw [hW, hgX]] at kX
  rw [← hgX]
  rw [← hW] at kB HSH s0 s1 hb ⊢
  have L1 : Hid (∀ n, (Instr.lookup 72 (.map (some gW)) (.string x.name) false).run Try.prog (W.drewN n) = .ok (.bool b1) (W.drewN n)) := fun n => by
    have hs : SetIs (W.drewN n) gW nW (wantS first out) := HSH.out.hw
    rw [← HB1.out]
    exact hs.look (by omega)
  have L2 : Hid (∀ n, (Instr.lookup 72 (.map (some gD)) (.string x.name) false).run Try.prog (W.drewN n) = .ok (.bool b2) (W.drewN n)) := fun n => by
    have hs : SetIs (W.drewN n) gD nD (haveS out) := HSH.out.hd
    rw [← HB2.out]
    exact hs.look (by omega)
  clear HB1 HB2 HSH hx
  clear hW hgX
  have x0 := kX.cell 0
  have x1 := kX.cell 1
  have y0 := kB.cell 0
  obtain ⟨q, hq⟩ : ∃ b, (x.kind != 3) = b := ⟨_, rfl⟩
  rw [hq] at HV
  rcases q with _ | _
  · go_quiet (fail)
    go_wp2
    go_ret
    exact ⟨by rw [HV.out]; rfl, by (repeat' (first | exact Below.refl _ _ | assumption | refine Below.setCell ?_ (by first | omega | exact Below.size (by assumption) | (simp; done) | (simp; omega)) _ | refine Below.alloc ?_ (by first | omega | exact Below.size (by assumption) | (simp; done) | (simp; omega)) _ | refine Below.drew ?_ | refine below_drewN ?_ _))⟩
  · rcases b1 with _ | _
    · refine wp_region_quiet_lit (by kernel_rfl) (by kernel_rfl) ?_
      repeat (go_big_quiet_step (fail))
      (go_big_quiet_want; refine quiet_look _ _ rfl (.bool false) (fun w' hw' => by obtain ⟨n, rfl⟩ := hw'; exact (L1).out n) ?_; go_big_quiet_on; simp only [Act.put, List.setIfInBounds_toArray, List.set_cons_zero, List.set_cons_succ]; repeat (go_big_quiet_step (fail)))
      (refine wpQuiet_nil ?_; intro _ hw'; obtain ⟨nq, hw''⟩ := hw'; subst hw'')
      go_wp2
      go_ret
      exact ⟨by rw [HV.out]; rfl, by (repeat' (first | exact Below.refl _ _ | assumption | refine Below.setCell ?_ (by first | omega | exact Below.size (by assumption) | (simp; done) | (simp; omega)) _ | refine Below.alloc ?_ (by first | omega | exact Below.size (by assumption) | (simp; done) | (simp; omega)) _ | refine Below.drew ?_ | refine below_drewN ?_ _))⟩
    · rcases b2 with _ | _
      all_goals
        refine wp_region_quiet_lit (by kernel_rfl) (by kernel_rfl) ?_
        repeat (go_big_quiet_step (fail))
        (go_big_quiet_want; refine quiet_look _ _ rfl (.bool true) (fun w' hw' => by obtain ⟨n, rfl⟩ := hw'; exact (L1).out n) ?_; go_big_quiet_on; simp only [Act.put, List.setIfInBounds_toArray, List.set_cons_zero, List.set_cons_succ]; repeat (go_big_quiet_step (fail)))
        first
          | (go_big_quiet_want; refine quiet_look _ _ rfl (.bool true) (fun w' hw' => by obtain ⟨n, rfl⟩ := hw'; exact (L2).out n) ?_; go_big_quiet_on; simp only [Act.put, List.setIfInBounds_toArray, List.set_cons_zero, List.set_cons_succ]; repeat (go_big_quiet_step (fail)))
          | (go_big_quiet_want; refine quiet_look _ _ rfl (.bool false) (fun w' hw' => by obtain ⟨n, rfl⟩ := hw'; exact (L2).out n) ?_; go_big_quiet_on; simp only [Act.put, List.setIfInBounds_toArray, List.set_cons_zero, List.set_cons_succ]; repeat (go_big_quiet_step (fail)))
        (refine wpQuiet_nil ?_; intro _ hw'; obtain ⟨nq, hw''⟩ := hw'; subst hw'')
        go_wp2
        go_ret
        exact ⟨by rw [HV.out]; rfl, by (repeat' (first | exact Below.refl _ _ | assumption | refine Below.setCell ?_ (by first | omega | exact Below.size (by assumption) | (simp; done) | (simp; omega)) _ | refine Below.alloc ?_ (by first | omega | exact Below.size (by assumption) | (simp; done) | (simp; omega)) _ | refine Below.drew ?_ | refine below_drewN ?_ _))⟩

set_option maxHeartbeats 8000000 in
set_option maxRecDepth 100000 in
theorem idxFDfh_any (A : Option Addr) (c : Nat) (l : List Df) (pr : Df → Bool) (gB : Nat) (w : World) (hR : Reads w w.heap.size 6 A l.length (dfsV l)) (hlm : l.length ≤ 9223372036854775807)
    (HL : ∀ x ∈ l, ∀ W, Below w.heap.size w W → Calls Try.prog 134 #[.agg #[.string x.name, .int .i64 x.kind, .int .i64 x.frag, .int .i64 x.at_, .int .i64 x.size, .int .i64 x.align], .pointer (some ⟨gB, 0, none⟩)] W fun e w' => e = .returned (.bool (pr x)) ∧ Below W.heap.size W w') :
    Calls Try.prog 94 #[.slice A l.length c, .func (.func 134) #[] #[.pointer (some ⟨gB, 0, none⟩)]] w
      fun e w' => (∃ n : Int, e = .returned (.int .i64 n) ∧ decide (0 ≤ n) = l.any pr) ∧ Below w.heap.size w w' := by
  have HL := Lib.hid HL
  go_enter Try.func94, Try.ntmps94
  go_wp2_with fail
  go_loopw [8] (fun i wr => ∃ k : Nat, k ≤ l.length ∧ i = .int .i64 k ∧ Hid ((l.take k).any pr = false) ∧ Below w.heap.size w wr) (fun i _ => l.length - (intOf i).toNat)
  case atStart => exact ⟨0, Nat.zero_le _, rfl, Lib.hid (by simp), Below.refl _ _⟩
  case round =>
    obtain ⟨k, hk, rfl, hno, hb⟩ := hrel
    by_cases hlt : k < l.length
    · obtain ⟨x, hx⟩ : ∃ x, l[k]? = some x := ⟨_, List.getElem?_eq_getElem hlt⟩
      obtain ⟨b, off, rfl, bl, c0, c1, c2, c3, c4, c5⟩ := df_get (hR.below hb) hx
      have HCx := HL.out x (List.mem_of_getElem? hx) wr hb
      have HY : Hid ((l.take (k + 1)).any pr = pr x) := by show _ = _; rw [List.take_add_one, hx, List.any_append, hno.out]; simp
      have HM : Hid (pr x = true → l.any pr = true) := fun h => List.any_eq_true.2 ⟨x, List.mem_of_getElem? hx, h⟩
      obtain ⟨t, ht⟩ : ∃ t, pr x = t := ⟨_, rfl⟩
      rw [ht] at HCx HY HM
      replace HCx := Lib.hid HCx
      clear hx ht
      cases t with
      | true =>
        have HM2 := Lib.hid (HM.out rfl)
        clear HM
        go_wp2_with (go_at_call 134; refine HCx.out.mono ?_; rintro e w' ⟨rfl, hb2⟩)
        go_ret
        exact ⟨⟨k, rfl, by rw [HM2.out]; exact decide_eq_true (by omega)⟩, hb.trans (hb2.mono hb.size)⟩
      | false =>
        go_wp2_with (go_at_call 134; refine HCx.out.mono ?_; rintro e w' ⟨rfl, hb2⟩)
        go_roundw
        case rel => exact ⟨k + 1, by omega, by go_num, HY, hb.trans (hb2.mono hb.size)⟩
        case measure => simp [intOf]; omega
    · obtain rfl : k = l.length := by omega
      go_wp2
      go_ret
      exact ⟨⟨-1, rfl, by have := hno.out; rw [List.take_length] at this; rw [this]; rfl⟩, hb⟩
set_option maxHeartbeats 8000000 in
theorem hasFDfh_any (A : Option Addr) (c : Nat) (l : List Df) (pr : Df → Bool) (gB : Nat) (w : World) (hR : Reads w w.heap.size 6 A l.length (dfsV l)) (hlm : l.length ≤ 9223372036854775807)
    (HL : ∀ x ∈ l, ∀ W, Below w.heap.size w W → Calls Try.prog 134 #[.agg #[.string x.name, .int .i64 x.kind, .int .i64 x.frag, .int .i64 x.at_, .int .i64 x.size, .int .i64 x.align], .pointer (some ⟨gB, 0, none⟩)] W fun e w' => e = .returned (.bool (pr x)) ∧ Below W.heap.size W w') :
    Calls Try.prog 34 #[.slice A l.length c, .func (.func 134) #[] #[.pointer (some ⟨gB, 0, none⟩)]] w
      fun e w' => e = .returned (.bool (l.any pr)) ∧ Below w.heap.size w w' := by
  have HI := Lib.hid (idxFDfh_any A c l pr gB w hR hlm HL)
  clear HL
  go_enter Try.func34, Try.ntmps34
  go_wp2_with fail
  refine HI.out.mono ?_
  rintro e w1 ⟨⟨n, rfl, hn⟩, hb⟩
  replace hn := Lib.hid hn
  go_wp2
  go_ret
  exact ⟨by rw [← hn.out]; rfl, hb⟩

set_option maxHeartbeats 8000000 in
set_option maxRecDepth 100000 in
theorem helps_any (p : PtM) (gS gW gD nW nD : Nat) (first : List ByteArray) (out : List Prt) (w : World) (h : p.At w w.heap.size) (hc : ckPart p.er = 0) (hS : StIs w gS gW gD nW nD first out) :
    Calls Try.prog 90 #[.pointer (some ⟨gS, 0, none⟩), .agg #[.slice p.fa p.frs.length p.fc, .slice p.da p.dfs.length p.dc]] w fun e w' => e = .returned (.bool (helpsB first out p.er)) ∧ Below w.heap.size w w' := by
  have kB := (Blk.new w 159 #[.pointer (some ⟨gS, 0, none⟩)]).alloc (.cells #[.slice (p).fa (p).frs.length (p).fc, .slice (p).da (p).dfs.length (p).dc] 44)
  have hb : Below w.heap.size w ((w.alloc (.cells #[.pointer (some ⟨gS, 0, none⟩)] 159)).alloc (.cells #[.slice (p).fa (p).frs.length (p).fc, .slice (p).da (p).dfs.length (p).dc] 44)) := by (repeat' (first | exact Below.refl _ _ | assumption | refine Below.setCell ?_ (by first | omega | exact Below.size (by assumption) | (simp; done) | (simp; omega)) _ | refine Below.alloc ?_ (by first | omega | exact Below.size (by assumption) | (simp; done) | (simp; omega)) _ | refine Below.drew ?_ | refine below_drewN ?_ _))
  have hd := ((h.df.below hb).more hb.size)
  have hdm := h.dm
  have HS := Lib.hid (hS.all hb)
  have HD : Hid (∀ x ∈ p.dfs, x.name.size ≤ 8) := fun x hx => nameB_short (def_name hc hx)
  clear h hc hS
  go_enter Try.func90, Try.ntmps90
  go_wp2_with fail
  refine (hasFDfh_any p.da p.dc p.dfs (helpD (wantS first out) (haveS out)) w.heap.size _ hd hdm ?_).mono ?_
  · intro x hx W' hbW
    exact helps1_any x w.heap.size gS gW gD nW nD first out W' (kB.all hbW) (HS.out.all hbW) (HD.out x hx)
  · rintro e w' ⟨rfl, hb2⟩
    go_wp2
    go_ret
    exact ⟨rfl, hb.trans (hb2.mono hb.size)⟩
end Go.Proofs.Ytbhjdinjoonngaa

/- What archive.Choose takes of the closed fact's items. No program in sight. -/
namespace Go.Proofs.Ytbhjdinjoonngaa

def takC : Prt := ⟨[⟨2, 1, ⟨#[]⟩, [], 0, []⟩], [⟨⟨#[122]⟩, 1, 0, 0, 0, 0⟩]⟩
def takD : Prt := ⟨[⟨1, 4, ⟨#[103]⟩, [7], 0, [⟨0, 1, ⟨#[119]⟩, 0, 0⟩]⟩], [⟨⟨#[102]⟩, 1, 0, 0, 0, 0⟩]⟩
def takW : Prt := ⟨[⟨4, 2, ⟨#[]⟩, [5], 0, []⟩], [⟨⟨#[119]⟩, 2, 0, 0, 0, 0⟩]⟩
/-- Helps: by the names as they come. -/
def helpsC (first : List ByteArray) (out : List Prt) (p : Prt) : Bool :=
  p.dfs.any (helpD (first ++ out.flatMap fun q => q.frs.flatMap wantedF) (out.flatMap fun q => q.dfs.map Df.name))
theorem helpsC_eq (first : List ByteArray) (out : List Prt) (p : Prt) : helpsB first out p = helpsC first out p := by
  unfold helpsB helpsC
  congr 1
  funext d
  refine helpD_congr (fun x => ?_) (fun x => ?_) d
  · unfold wantS
    simp only [List.mem_append, List.mem_flatMap]
    refine or_congr Iff.rfl (exists_congr fun q => and_congr Iff.rfl ?_)
    unfold wantedP
    rw [setS_mem, List.mem_flatMap]
  · unfold haveS
    simp only [List.mem_flatMap]
    refine exists_congr fun q => and_congr Iff.rfl ?_
    unfold definedP
    exact setS_mem
theorem tak_ck : ckItems [⟨false, [twoA]⟩, ⟨true, [takW, takC, takD]⟩] = 0 := by decide +kernel
theorem tak1 : helpsB [] [twoA] takW = false := by rw [helpsC_eq]; decide +kernel
theorem tak2 : helpsB [] [twoA] takC = false := by rw [helpsC_eq]; decide +kernel
theorem tak3 : helpsB [] [twoA] takD = true := by rw [helpsC_eq]; decide +kernel
theorem tak4 : helpsB [] [twoA, takD] takW = true := by rw [helpsC_eq]; decide +kernel
theorem tak5 : helpsB [] [twoA, takD, takW] takC = false := by rw [helpsC_eq]; decide +kernel
theorem tak_all : chooseP [⟨false, [twoA]⟩, ⟨true, [takW, takC, takD]⟩] [] = ([twoA, takD, takW], 0) := by
  have e : chosenP [⟨false, [twoA]⟩, ⟨true, [takW, takC, takD]⟩] [] = [twoA, takD, takW] := by
    have p1 : passTo [] [takW, takC, takD] [false, false, false] [twoA] 3 = ([false, false, true], [twoA, takD], true) := by
      have a0 : passStep [] [takW, takC, takD] ([false, false, false], [twoA], false) 0 = ([false, false, false], [twoA], false) := passStep_leave (p := takW) rfl (.inr tak1)
      have a1 : passStep [] [takW, takC, takD] ([false, false, false], [twoA], false) 1 = ([false, false, false], [twoA], false) := passStep_leave (p := takC) rfl (.inr tak2)
      have a2 : passStep [] [takW, takC, takD] ([false, false, false], [twoA], false) 2 = ([false, false, true], [twoA, takD], true) := passStep_take (p := takD) rfl rfl tak3
      rw [passTo_succ, passTo_succ, passTo_succ, passTo_zero, a0, a1, a2]
    have p2 : passTo [] [takW, takC, takD] [false, false, true] [twoA, takD] 3 = ([true, false, true], [twoA, takD, takW], true) := by
      have a0 : passStep [] [takW, takC, takD] ([false, false, true], [twoA, takD], false) 0 = ([true, false, true], [twoA, takD, takW], true) := passStep_take (p := takW) rfl rfl tak4
      have a1 : passStep [] [takW, takC, takD] ([true, false, true], [twoA, takD, takW], true) 1 = ([true, false, true], [twoA, takD, takW], true) := passStep_leave (p := takC) rfl (.inr tak5)
      have a2 : passStep [] [takW, takC, takD] ([true, false, true], [twoA, takD, takW], true) 2 = ([true, false, true], [twoA, takD, takW], true) := passStep_leave (p := takD) rfl (.inl rfl)
      rw [passTo_succ, passTo_succ, passTo_succ, passTo_zero, a0, a1, a2]
    have p3 : passTo [] [takW, takC, takD] [true, false, true] [twoA, takD, takW] 3 = ([true, false, true], [twoA, takD, takW], false) := by
      have a0 : passStep [] [takW, takC, takD] ([true, false, true], [twoA, takD, takW], false) 0 = ([true, false, true], [twoA, takD, takW], false) := passStep_leave (p := takW) rfl (.inl rfl)
      have a1 : passStep [] [takW, takC, takD] ([true, false, true], [twoA, takD, takW], false) 1 = ([true, false, true], [twoA, takD, takW], false) := passStep_leave (p := takC) rfl (.inr tak5)
      have a2 : passStep [] [takW, takC, takD] ([true, false, true], [twoA, takD, takW], false) 2 = ([true, false, true], [twoA, takD, takW], false) := passStep_leave (p := takD) rfl (.inl rfl)
      rw [passTo_succ, passTo_succ, passTo_succ, passTo_zero, a0, a1, a2]
    show itemStep [] (itemStep [] [] ⟨false, [twoA]⟩) ⟨true, [takW, takC, takD]⟩ = _
    have s1 : itemStep [] [] ⟨false, [twoA]⟩ = [twoA] := rfl
    rw [s1]
    show archN [] [takW, takC, takD] 4 [false, false, false] [twoA] = _
    have l3 : [takW, takC, takD].length = 3 := rfl
    rw [archN, l3, p1, if_pos rfl, archN, l3, p2, if_pos rfl, archN, l3, p3, if_neg (by simp)]
  have h0 : chooseE [⟨false, [twoA]⟩, ⟨true, [takW, takC, takD]⟩] [] = 0 := by
    unfold chooseE
    rw [tak_ck]
    rfl
  unfold chooseP
  rw [h0, e]
  rfl
end Go.Proofs.Ytbhjdinjoonngaa
