/- archive.Choose: what an archive gives: each lacked ahead of it; in the end nobody lacks what is left; plain items. No program in sight. -/
import Derived.Test.YtbhjdinjoonngaaArcD
set_option linter.all false
namespace Go.Proofs.Ytbhjdinjoonngaa

theorem def_mem_have {p : Prt} {out : List Prt} (hp : p ∈ out) {d : Df} (hd : d ∈ p.dfs) : d.name ∈ haveS out := by
  unfold haveS
  refine List.mem_flatMap.2 ⟨p, hp, ?_⟩
  unfold definedP
  exact setS_mem.2 (List.mem_map.2 ⟨d, hd, rfl⟩)
/-- What was taken helps no more. -/
theorem helps_taken {first : List ByteArray} {p : Prt} {out : List Prt} (hp : p ∈ out) : helpsB first out p = false := by
  unfold helpsB
  rw [List.any_eq_false]
  intro d hd
  unfold helpD
  rw [decide_eq_true (def_mem_have hp hd)]
  simp
/-- Each part of r was lacked ahead of it. -/
def Lacked (first : List ByteArray) (ps o0 r : List Prt) : Prop := ∀ (i : Nat) (q : Prt), r[i]? = some q → q ∈ ps ∧ helpsB first (o0 ++ r.take i) q = true
structure ArcInv (first : List ByteArray) (ps o0 : List Prt) (t : List Bool) (o : List Prt) : Prop where
  len : t.length = ps.length
  tak : ∀ (i : Nat) (p : Prt), ps[i]? = some p → t[i]? = some true → p ∈ o
  row : ∃ r, o = o0 ++ r ∧ Lacked first ps o0 r
theorem ArcInv.take {first : List ByteArray} {ps o0 : List Prt} {t : List Bool} {o : List Prt} {i : Nat} {p : Prt} (h : ArcInv first ps o0 t o) (hp : ps[i]? = some p) (hh : helpsB first o p = true) : ArcInv first ps o0 (t.set i true) (o ++ [p]) := by
  obtain ⟨r, rfl, hr⟩ := h.row
  refine ⟨by rw [List.length_set]; exact h.len, fun j q hq hj => ?_, r ++ [p], by rw [List.append_assoc], fun j q hq => ?_⟩
  · by_cases hij : i = j
    · subst hij
      rw [hp] at hq
      injection hq with hq
      subst hq
      simp
    · rw [List.getElem?_set_ne hij] at hj
      exact List.mem_append.2 (.inl (h.tak j q hq hj))
  · rcases Nat.lt_or_ge j r.length with hj | hj
    · rw [List.getElem?_append_left hj] at hq
      rw [List.take_append_of_le_length (by omega)]
      exact hr j q hq
    · rw [List.getElem?_append_right hj] at hq
      have hj0 : j - r.length = 0 := by
        have := (List.getElem?_eq_some_iff.1 hq).1
        simp at this
        omega
      rw [hj0] at hq
      simp at hq
      subst hq
      obtain rfl : j = r.length := by omega
      rw [List.take_append_of_le_length (Nat.le_refl _), List.take_length]
      exact ⟨List.mem_of_getElem? hp, hh⟩
theorem passTo_inv {first : List ByteArray} {ps o0 : List Prt} {t : List Bool} {o : List Prt} (h : ArcInv first ps o0 t o) : ∀ k, k ≤ ps.length → ArcInv first ps o0 (passTo first ps t o k).1 (passTo first ps t o k).2.1
  | 0, _ => h
  | k + 1, hk => by
    have ih := passTo_inv h k (by omega)
    rw [passTo_succ]
    obtain ⟨p, hp⟩ : ∃ p, ps[k]? = some p := ⟨_, List.getElem?_eq_getElem (by omega)⟩
    by_cases hc : (passTo first ps t o k).1[k]? = some false ∧ helpsB first (passTo first ps t o k).2.1 p = true
    · rw [passStep_take hp hc.1 hc.2]
      exact ih.take hp hc.2
    · have e : passStep first ps (passTo first ps t o k) k = passTo first ps t o k := by
        unfold passStep; rw [hp]; exact if_neg hc
      rw [e]
      exact ih
/-- A pass that takes nothing: nothing helps. -/
theorem pass_none {first : List ByteArray} {ps : List Prt} {t : List Bool} {o : List Prt} (ht : t.length = ps.length) : ∀ k, k ≤ ps.length → (passTo first ps t o k).2.2 = false →
    passTo first ps t o k = (t, o, false) ∧ ∀ (i : Nat) (p : Prt), i < k → ps[i]? = some p → t[i]? = some false → helpsB first o p = false
  | 0, _, _ => ⟨rfl, fun i p hi => absurd hi (by omega)⟩
  | k + 1, hk, he => by
    rw [passTo_succ] at he ⊢
    obtain ⟨p, hp⟩ : ∃ p, ps[k]? = some p := ⟨_, List.getElem?_eq_getElem (by omega)⟩
    by_cases hc : (passTo first ps t o k).1[k]? = some false ∧ helpsB first (passTo first ps t o k).2.1 p = true
    · rw [passStep_take hp hc.1 hc.2] at he
      cases he
    · have e : passStep first ps (passTo first ps t o k) k = passTo first ps t o k := by
        unfold passStep; rw [hp]; exact if_neg hc
      rw [e] at he ⊢
      obtain ⟨h1, h2⟩ := pass_none ht k (by omega) he
      rw [h1] at hc
      refine ⟨h1, fun i q hi hq htf => ?_⟩
      rcases Nat.lt_or_ge i k with hik | hik
      · exact h2 i q hik hq htf
      · obtain rfl : i = k := by omega
        rw [hp] at hq
        injection hq with hq
        subst hq
        rcases hb : helpsB first o p with _ | _
        · rfl
        · exact absurd ⟨htf, hb⟩ hc
theorem archN_end {first : List ByteArray} {ps o0 : List Prt} : ∀ (n : Nat) (t : List Bool) (o : List Prt), ArcInv first ps o0 t o → falses t < n →
    (∃ r, archN first ps n t o = o0 ++ r ∧ Lacked first ps o0 r) ∧ ∀ p ∈ ps, helpsB first (archN first ps n t o) p = false
  | 0, t, o, _, hn => absurd hn (by omega)
  | n + 1, t, o, h, hn => by
    have hc := passTo_count first ps t o h.len ps.length (Nat.le_refl _)
    have hi := passTo_inv h ps.length (Nat.le_refl _)
    rw [archN]
    by_cases ha : (passTo first ps t o ps.length).2.2 = true
    · rw [if_pos ha]
      have := hc.2.2.1.1 ha
      exact archN_end n _ _ hi (by omega)
    · rw [if_neg ha]
      have ha' : (passTo first ps t o ps.length).2.2 = false := by simpa using ha
      obtain ⟨e, hnone⟩ := pass_none h.len ps.length (Nat.le_refl _) ha'
      rw [e]
      refine ⟨h.row, fun p hp => ?_⟩
      obtain ⟨i, hi', rfl⟩ := List.getElem_of_mem hp
      have hip : ps[i]? = some ps[i] := List.getElem?_eq_getElem hi'
      obtain ⟨b, hb⟩ : ∃ b, t[i]? = some b := ⟨_, List.getElem?_eq_getElem (by rw [h.len]; exact hi')⟩
      cases b with
      | true => exact helps_taken (h.tak i _ hip hb)
      | false => exact hnone i _ hi' hip hb
theorem arch_end (first : List ByteArray) (ps o0 : List Prt) : (∃ r, archP first ps o0 = o0 ++ r ∧ Lacked first ps o0 r) ∧ ∀ p ∈ ps, helpsB first (archP first ps o0) p = false := by
  unfold archP
  refine archN_end _ _ _ ⟨by simp, fun i p _ ht => ?_, [], by simp, fun i q hq => by simp at hq⟩ ?_
  · rw [List.getElem?_replicate] at ht
    split at ht
    · cases ht
    · cases ht
  · unfold falses
    rw [List.countP_replicate]
    simp
theorem archN_len {first : List ByteArray} {ps : List Prt} : ∀ (n : Nat) (t : List Bool) (o : List Prt), t.length = ps.length → (archN first ps n t o).length ≤ o.length + falses t
  | 0, t, o, _ => by rw [archN]; omega
  | n + 1, t, o, ht => by
    have hc := passTo_count first ps t o ht ps.length (Nat.le_refl _)
    rw [archN]
    split
    · have := archN_len (first := first) n (passTo first ps t o ps.length).1 (passTo first ps t o ps.length).2.1 hc.1
      omega
    · omega
theorem arch_len (first : List ByteArray) (ps o : List Prt) : (archP first ps o).length ≤ o.length + ps.length := by
  have := archN_len (first := first) (ps := ps) (ps.length + 1) (List.replicate ps.length false) o (by simp)
  have e : falses (List.replicate ps.length false) = ps.length := by unfold falses; rw [List.countP_replicate]; simp
  unfold archP
  omega
/-- Nobody lacks what an archive has: nothing is taken. -/
theorem arch_none {first : List ByteArray} {ps o0 : List Prt} (h : ∀ p ∈ ps, helpsB first o0 p = false) : archP first ps o0 = o0 := by
  obtain ⟨⟨r, hr, hl⟩, _⟩ := arch_end first ps o0
  rcases r with _ | ⟨q, r⟩
  · rw [hr, List.append_nil]
  · obtain ⟨h1, h2⟩ := hl 0 q rfl
    rw [List.take_zero, List.append_nil, h q h1] at h2
    cases h2
/-- What is no archive's is taken as it is. -/
theorem chosen_plain (first : List ByteArray) : ∀ (l : List Itm), (∀ x ∈ l, x.arch = false) → ∀ o, l.foldl (itemStep first) o = o ++ l.flatMap fun x => x.ps.take 1
  | [], _, o => by simp
  | x :: r, h, o => by
    rw [List.foldl_cons, chosen_plain first r (fun y hy => h y (by simp [hy])), List.flatMap_cons]
    unfold itemStep
    rw [h x (by simp), if_neg (by simp), List.append_assoc]
theorem chosen_snoc (l : List Itm) (x : Itm) (first : List ByteArray) : chosenP (l ++ [x]) first = itemStep first (chosenP l first) x := by
  unfold chosenP; rw [List.foldl_append]; rfl
end Go.Proofs.Ytbhjdinjoonngaa
