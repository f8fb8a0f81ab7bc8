/- archive.Choose as plain data. No program in sight. -/
import Derived.Test.YtmlomnhjbmocfaaDoorNameW
import Derived.Test.YtmlomnhjbmocfaaDoorSetD
set_option linter.all false
namespace Go.Proofs.YtmlomnhjbmocfaaDoor

structure Itm where
  arch : Bool
  ps : List Prt
def ckItem (x : Itm) : Int := if 8 < x.ps.length then 2 else if x.arch = false ∧ x.ps.length ≠ 1 then 4 else firstBad (x.ps.map ckPart)
def ckItems (l : List Itm) : Int := if 12 < l.length then 2 else firstBad (l.map ckItem)
theorem ckItem_many {x : Itm} (h : 8 < x.ps.length) : ckItem x = 2 := if_pos h
theorem ckItem_form {x : Itm} (h : ¬ 8 < x.ps.length) (h1 : x.arch = false) (h2 : x.ps.length ≠ 1) : ckItem x = 4 := by unfold ckItem; rw [if_neg h, if_pos ⟨h1, h2⟩]
theorem ckItem_parts {x : Itm} (h : ¬ 8 < x.ps.length) (h1 : ¬ (x.arch = false ∧ x.ps.length ≠ 1)) : ckItem x = firstBad (x.ps.map ckPart) := by unfold ckItem; rw [if_neg h, if_neg h1]
theorem ckItem_zero {x : Itm} (h : ckItem x = 0) : x.ps.length ≤ 8 ∧ (x.arch = false → x.ps.length = 1) ∧ ∀ p ∈ x.ps, ckPart p = 0 := by
  by_cases h1 : 8 < x.ps.length
  · rw [ckItem_many h1] at h; cases h
  · by_cases h2 : x.arch = false ∧ x.ps.length ≠ 1
    · rw [ckItem_form h1 h2.1 h2.2] at h; cases h
    · rw [ckItem_parts h1 h2] at h
      exact ⟨by omega, fun ha => by by_cases he : x.ps.length = 1; exact he; exact absurd ⟨ha, he⟩ h2, fun p hp => firstBad_zero.1 h _ (List.mem_map_of_mem hp)⟩
theorem ckItems_zero {l : List Itm} (h : ckItems l = 0) : l.length ≤ 12 ∧ ∀ x ∈ l, ckItem x = 0 := by
  unfold ckItems at h
  split at h
  · cases h
  · exact ⟨by omega, fun x hx => firstBad_zero.1 h _ (List.mem_map_of_mem hx)⟩
theorem ckItems_many {l : List Itm} (h : 12 < l.length) : ckItems l = 2 := if_pos h
theorem ckItems_few {l : List Itm} (h : ¬ 12 < l.length) : ckItems l = firstBad (l.map ckItem) := if_neg h

/-- The names that are wanted, and defined, where some parts are taken. -/
def wantS (first : List ByteArray) (out : List Prt) : List ByteArray := first ++ out.flatMap wantedP
def haveS (out : List Prt) : List ByteArray := out.flatMap definedP
/-- Does a definition help? A part? -/
def helpD (W D : List ByteArray) (d : Df) : Bool := (d.kind != 3) && (decide (d.name ∈ W) && !decide (d.name ∈ D))
def helpsB (first : List ByteArray) (out : List Prt) (p : Prt) : Bool := p.dfs.any (helpD (wantS first out) (haveS out))
def passStep (first : List ByteArray) (ps : List Prt) (st : List Bool × List Prt × Bool) (i : Nat) : List Bool × List Prt × Bool :=
  match ps[i]? with
  | some p => if st.1[i]? = some false ∧ helpsB first st.2.1 p = true then (st.1.set i true, st.2.1 ++ [p], true) else st
  | none => st
def passTo (first : List ByteArray) (ps : List Prt) (t : List Bool) (o : List Prt) (k : Nat) : List Bool × List Prt × Bool := (List.range k).foldl (passStep first ps) (t, o, false)
theorem passTo_zero (first : List ByteArray) (ps : List Prt) (t : List Bool) (o : List Prt) : passTo first ps t o 0 = (t, o, false) := rfl
theorem passTo_succ (first : List ByteArray) (ps : List Prt) (t : List Bool) (o : List Prt) (k : Nat) : passTo first ps t o (k + 1) = passStep first ps (passTo first ps t o k) k := by
  unfold passTo; rw [List.range_succ, List.foldl_append]; rfl
theorem passStep_take {first : List ByteArray} {ps : List Prt} {st : List Bool × List Prt × Bool} {i : Nat} {p : Prt} (hp : ps[i]? = some p) (h1 : st.1[i]? = some false) (h2 : helpsB first st.2.1 p = true) : passStep first ps st i = (st.1.set i true, st.2.1 ++ [p], true) := by
  unfold passStep; rw [hp]; exact if_pos ⟨h1, h2⟩
theorem passStep_leave {first : List ByteArray} {ps : List Prt} {st : List Bool × List Prt × Bool} {i : Nat} {p : Prt} (hp : ps[i]? = some p) (h : st.1[i]? = some true ∨ helpsB first st.2.1 p = false) : passStep first ps st i = st := by
  unfold passStep; rw [hp]; refine if_neg ?_
  rintro ⟨h1, h2⟩
  rcases h with h | h
  · rw [h] at h1; cases h1
  · rw [h] at h2; cases h2
/-- An archive, pass by pass; n passes at most. -/
def archN (first : List ByteArray) (ps : List Prt) : Nat → List Bool → List Prt → List Prt
  | 0, _, o => o
  | n + 1, t, o => if (passTo first ps t o ps.length).2.2 then archN first ps n (passTo first ps t o ps.length).1 (passTo first ps t o ps.length).2.1 else (passTo first ps t o ps.length).2.1
def archP (first : List ByteArray) (ps : List Prt) (o : List Prt) : List Prt := archN first ps (ps.length + 1) (List.replicate ps.length false) o
def itemStep (first : List ByteArray) (o : List Prt) (x : Itm) : List Prt := if x.arch then archP first x.ps o else o ++ x.ps.take 1
def chosenP (l : List Itm) (first : List ByteArray) : List Prt := l.foldl (itemStep first) []
theorem chosen_take {l : List Itm} {first : List ByteArray} {k : Nat} {x : Itm} (h : l[k]? = some x) : chosenP (l.take (k + 1)) first = itemStep first (chosenP (l.take k) first) x := by
  unfold chosenP
  rw [List.take_add_one, h, List.foldl_append]
  rfl
def chooseE (l : List Itm) (first : List ByteArray) : Int :=
  if ckItems l ≠ 0 then ckItems l else if 12 < first.length then 2 else if first.any (fun s => !nameB s) then 1 else 0
def chooseP (l : List Itm) (first : List ByteArray) : List Prt × Int := if chooseE l first ≠ 0 then ([], chooseE l first) else (chosenP l first, 0)

def falses (t : List Bool) : Nat := t.countP (fun b => b == false)
theorem falses_set {t : List Bool} {i : Nat} (h : t[i]? = some false) : falses (t.set i true) + 1 = falses t := by
  unfold falses
  induction t generalizing i with
  | nil => simp at h
  | cons a r ih =>
    cases i with
    | zero => simp at h; subst h; simp
    | succ i =>
      simp only [List.getElem?_cons_succ] at h
      simp only [List.set_cons_succ, List.countP_cons]
      have := ih h
      omega
/-- What a pass does: how many are taken. -/
theorem passTo_count (first : List ByteArray) (ps : List Prt) (t : List Bool) (o : List Prt) (ht : t.length = ps.length) : ∀ k, k ≤ ps.length →
    (passTo first ps t o k).1.length = ps.length ∧ (passTo first ps t o k).2.1.length + falses (passTo first ps t o k).1 = o.length + falses t ∧ ((passTo first ps t o k).2.2 = true ↔ o.length < (passTo first ps t o k).2.1.length) ∧ o.length ≤ (passTo first ps t o k).2.1.length
  | 0, _ => ⟨ht, rfl, by rw [passTo_zero]; simp, Nat.le_refl _⟩
  | k + 1, hk => by
    obtain ⟨h1, h2, h3, h4⟩ := passTo_count first ps t o ht k (by omega)
    rw [passTo_succ]
    obtain ⟨p, hp⟩ : ∃ p, ps[k]? = some p := ⟨_, List.getElem?_eq_getElem (by omega)⟩
    by_cases hc : (passTo first ps t o k).1[k]? = some false ∧ helpsB first (passTo first ps t o k).2.1 p = true
    · rw [passStep_take hp hc.1 hc.2]
      have := falses_set hc.1
      simp only [List.length_set, List.length_append, List.length_singleton]
      exact ⟨h1, by omega, by simp; omega, by omega⟩
    · have e : passStep first ps (passTo first ps t o k) k = passTo first ps t o k := by
        unfold passStep; rw [hp]; exact if_neg hc
      rw [e]
      exact ⟨h1, h2, h3, h4⟩

/-! ### sets -/
theorem mem_wantS_snoc {first : List ByteArray} {out : List Prt} {p : Prt} (x : ByteArray) : x ∈ wantS first (out ++ [p]) ↔ x ∈ wantedP p ++ wantS first out := by
  unfold wantS
  simp only [List.flatMap_append, List.mem_append, List.flatMap_cons, List.flatMap_nil, List.append_nil]
  constructor
  · rintro (h | h | h)
    · exact .inr (.inl h)
    · exact .inr (.inr h)
    · exact .inl h
  · rintro (h | h | h)
    · exact .inr (.inr h)
    · exact .inl h
    · exact .inr (.inl h)
theorem mem_haveS_snoc {out : List Prt} {p : Prt} (x : ByteArray) : x ∈ haveS (out ++ [p]) ↔ x ∈ definedP p ++ haveS out := by
  unfold haveS
  simp only [List.flatMap_append, List.mem_append, List.flatMap_cons, List.flatMap_nil, List.append_nil]
  exact Or.comm
theorem helpD_congr {W D W' D' : List ByteArray} (hW : ∀ x, x ∈ W ↔ x ∈ W') (hD : ∀ x, x ∈ D ↔ x ∈ D') (d : Df) : helpD W D d = helpD W' D' d := by
  unfold helpD
  rw [decide_eq_decide.2 (hW d.name), decide_eq_decide.2 (hD d.name)]
/-! ### names are short -/
theorem nameB_short {s : ByteArray} (h : nameB s = true) : s.size ≤ 8 := by
  unfold nameB at h
  simp only [Bool.and_eq_true, decide_eq_true_eq] at h
  exact h.1.2
theorem ckRels_name {many nb : Int} : ∀ {l : List Rel} {last : Int}, ckRels many nb last l = 0 → ∀ r ∈ l, r.name.size ≠ 0 → nameB r.name = true
  | [], _, _, r, hr, _ => by cases hr
  | a :: l, last, h, r, hr, hn => by
    rw [ckRels] at h
    split at h
    · rename_i h1; exact absurd h h1
    · rename_i h1
      rcases List.mem_cons.1 hr with rfl | hr
      · have h2 : ckRel many nb last r = 0 := Decidable.not_not.1 h1
        unfold ckRel at h2
        by_cases hw : wideOf r.kind = 0 ∨ r.at_ < last ∨ nb - wideOf r.kind < r.at_ ∨ r.add < -10000 ∨ 10000 < r.add
        · rw [if_pos hw] at h2; cases h2
        · rw [if_neg hw, if_neg hn] at h2
          by_cases h4 : nameB r.name = false ∨ r.frag ≠ 0
          · rw [if_pos h4] at h2; cases h2
          · rcases hb : nameB r.name with _ | _
            · exact absurd (.inl hb) h4
            · rfl
      · exact ckRels_name h r hr hn
theorem def_name {p : Prt} (hc : ckPart p = 0) {d : Df} (hd : d ∈ p.dfs) : nameB d.name = true := by
  have h := ((ok_iff p).1 hc).df d hd
  unfold ckDef at h
  split at h
  · cases h
  · rename_i h1
    simpa using h1
theorem wanted_short {p : Prt} (hc : ckPart p = 0) {s : ByteArray} (hs : s ∈ wantedP p) : s.size ≤ 8 := by
  unfold wantedP at hs
  obtain ⟨f, hf, hs⟩ := List.mem_flatMap.1 (setS_mem.1 hs)
  unfold wantedF at hs
  obtain ⟨r, hr, rfl⟩ := List.mem_map.1 hs
  obtain ⟨hr, hn⟩ := List.mem_filter.1 hr
  exact nameB_short (ckRels_name (ckFrag_rels (((ok_iff p).1 hc).fr f hf)) r hr (by simpa using hn))
theorem defined_short {p : Prt} (hc : ckPart p = 0) {s : ByteArray} (hs : s ∈ definedP p) : s.size ≤ 8 := by
  unfold definedP at hs
  obtain ⟨d, hd, rfl⟩ := List.mem_map.1 (setS_mem.1 hs)
  exact nameB_short (def_name hc hd)
theorem flatMap_le {α β : Type} {f : α → List β} {c : Nat} : ∀ (l : List α), (∀ x ∈ l, (f x).length ≤ c) → (l.flatMap f).length ≤ l.length * c
  | [], _ => by simp
  | x :: r, h => by
    rw [List.flatMap_cons, List.length_append, List.length_cons, Nat.succ_mul]
    have := h x (by simp)
    have := flatMap_le r (fun y hy => h y (by simp [hy]))
    omega
theorem frag_rels8 {many : Int} {f : Frg} (h : ckFrag many f = 0) : f.rs.length ≤ 8 := by
  unfold ckFrag at h
  split at h
  · cases h
  · split at h
    · cases h
    · split at h
      · cases h
      · rename_i h3; omega
theorem wanted_few {p : Prt} (hc : ckPart p = 0) : (wantedP p).length ≤ 480 := by
  have h := (ok_iff p).1 hc
  have h1 := setS_len (p.frs.flatMap wantedF)
  have h2 := flatMap_le (f := wantedF) (c := 8) p.frs (fun f hf => by
    unfold wantedF
    rw [List.length_map]
    exact Nat.le_trans (List.length_filter_le _ _) (frag_rels8 (h.fr f hf)))
  have := h.n1
  unfold wantedP
  omega
theorem defined_few {p : Prt} (hc : ckPart p = 0) : (definedP p).length ≤ 60 := by
  have h := (ok_iff p).1 hc
  have h1 := setS_len (p.dfs.map Df.name)
  rw [List.length_map] at h1
  have := h.n2
  unfold definedP
  omega
end Go.Proofs.YtmlomnhjbmocfaaDoor
