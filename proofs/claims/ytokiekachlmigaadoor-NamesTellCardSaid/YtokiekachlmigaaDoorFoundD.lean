/- The document's Find comes to names.Find. No program in sight. -/
import Derived.Test.YtokiekachlmigaaDoorBA
set_option linter.all false
namespace Go.Proofs.YtokiekachlmigaaDoor

def ofKind (s : ByteArray) (k : Int) (l : List Df) : List Df := l.filter fun d => decide (d.name = s ∧ d.kind = k)
def sizeM (l : List Df) : Int := l.foldl (fun n d => max n d.size) 0
def alignM (l : List Df) : Int := l.foldl (fun n d => max n d.align) 0
/-- chapter 4's Find, by the lists of each kind. -/
def foundL (l : List Df) (s : ByteArray) : Df × Int :=
  if 1 < (ofKind s 1 l).length then (.zero, 6)
  else match ofKind s 1 l with
    | d :: _ => (d, 0)
    | [] => if 0 < (ofKind s 3 l).length then (⟨s, 3, 0, 0, sizeM (ofKind s 3 l), alignM (ofKind s 3 l)⟩, 0)
      else match ofKind s 2 l with
        | d :: _ => (d, 0)
        | [] => (.zero, 7)
theorem ofKind_snoc (s : ByteArray) (k : Int) (l : List Df) (d : Df) : ofKind s k (l ++ [d]) = if d.name = s ∧ d.kind = k then ofKind s k l ++ [d] else ofKind s k l := by
  unfold ofKind
  rw [List.filter_append]
  split
  · rename_i h; simp [h]
  · rename_i h; simp [h]
theorem sizeM_snoc (l : List Df) (d : Df) : sizeM (l ++ [d]) = max (sizeM l) d.size := by unfold sizeM; rw [List.foldl_append]; rfl
theorem alignM_snoc (l : List Df) (d : Df) : alignM (l ++ [d]) = max (alignM l) d.align := by unfold alignM; rw [List.foldl_append]; rfl
/-- What the state is, by the lists of each kind. -/
structure FoundSt (s : ByteArray) (l : List Df) (st : Df × Bool) : Prop where
  two : 1 < (ofKind s 1 l).length → st = (.zero, true)
  one : ∀ d, ofKind s 1 l = [d] → st = (d, false)
  com : ofKind s 1 l = [] → 0 < (ofKind s 3 l).length → st = (⟨s, 3, 0, 0, sizeM (ofKind s 3 l), alignM (ofKind s 3 l)⟩, false)
  weak : ∀ d r, ofKind s 1 l = [] → ofKind s 3 l = [] → ofKind s 2 l = d :: r → st = (d, false)
  none_ : ofKind s 1 l = [] → ofKind s 3 l = [] → ofKind s 2 l = [] → st = (.zero, false)
/-- What holds of a right part's definitions. -/
def DfOk (d : Df) : Prop := (d.kind = 1 ∨ d.kind = 2 ∨ d.kind = 3) ∧ (d.kind = 3 → d.frag = 0 ∧ d.at_ = 0 ∧ 1 ≤ d.size ∧ 1 ≤ d.align)
theorem mem_kind {s : ByteArray} {k : Int} {l : List Df} {d : Df} (h : d ∈ ofKind s k l) : d.name = s ∧ d.kind = k := by
  unfold ofKind at h
  have := (List.mem_filter.1 h).2
  simpa using this
theorem found_step {s : ByteArray} {l : List Df} {st : Df × Bool} {d : Df} (hd : DfOk d) (h : FoundSt s l st) : FoundSt s (l ++ [d]) (findStep s st d) := by
  have e1 := ofKind_snoc s 1 l d
  have e2 := ofKind_snoc s 2 l d
  have e3 := ofKind_snoc s 3 l d
  by_cases hn : d.name = s
  rotate_left
  · have hs : findStep s st d = st := by unfold findStep; simp [hn]
    rw [if_neg (by simp [hn])] at e1 e2 e3
    rw [hs]
    exact ⟨by rw [e1]; exact h.two, by rw [e1]; exact h.one, by rw [e1, e3]; exact h.com, by rw [e1, e2, e3]; exact h.weak, by rw [e1, e2, e3]; exact h.none_⟩
  -- what the state is
  rcases hA : ofKind s 1 l with _ | ⟨a, _ | ⟨a2, r⟩⟩
  · rcases hC : ofKind s 3 l with _ | ⟨c, rc⟩
    · rcases hW : ofKind s 2 l with _ | ⟨b, rb⟩
      · have hst := h.none_ hA hC hW
        rcases hd.1 with hk | hk | hk <;> simp only [hn, hk, hA, hC, hW, true_and, and_true, and_false, if_true, if_false, List.nil_append, Int.reduceEq] at e1 e2 e3
        · have hs : findStep s st d = (d, false) := by rw [hst]; simp [findStep, hn, hk, Df.zero]
          rw [hs]
          exact ⟨fun h => (by rw [e1] at h; simp at h), fun x hx => (by rw [e1] at hx; cases hx; rfl), fun hx => (by rw [e1] at hx; cases hx), fun _ _ hx => (by rw [e1] at hx; cases hx), fun hx => (by rw [e1] at hx; cases hx)⟩
        · have hs : findStep s st d = (d, false) := by rw [hst]; simp [findStep, hn, hk, Df.zero]
          rw [hs]
          exact ⟨fun h => (by rw [e1] at h; simp at h), fun x hx => (by rw [e1] at hx; cases hx), fun _ hx => (by rw [e3] at hx; simp at hx), fun x r _ _ hx => (by rw [e2] at hx; cases hx; rfl), fun _ _ hx => (by rw [e2] at hx; cases hx)⟩
        · obtain ⟨q1, q2, q3, q4⟩ := hd.2 hk
          have hs : findStep s st d = (d, false) := by rw [hst]; simp [findStep, hn, hk, Df.zero]
          rw [hs]
          refine ⟨fun h => (by rw [e1] at h; simp at h), fun x hx => (by rw [e1] at hx; cases hx), fun _ _ => ?_, fun x r _ hx => (by rw [e3] at hx; cases hx), fun _ hx => (by rw [e3] at hx; cases hx)⟩
          rw [e3]
          obtain ⟨dn, dk, df, da, ds, dl⟩ := d
          simp only at *
          subst hn hk q1 q2
          simp only [sizeM, alignM, List.foldl_cons, List.foldl_nil, Prod.mk.injEq, Df.mk.injEq, true_and, and_true]
          omega
      · have hst := h.weak b rb hA hC hW
        have hb := mem_kind (show b ∈ ofKind s 2 l by rw [hW]; simp)
        rcases hd.1 with hk | hk | hk <;> simp only [hn, hk, hA, hC, hW, true_and, and_true, and_false, if_true, if_false, List.nil_append, Int.reduceEq] at e1 e2 e3
        · have hs : findStep s st d = (d, false) := by rw [hst]; simp [findStep, hn, hk, hb]
          rw [hs]
          exact ⟨fun h => (by rw [e1] at h; simp at h), fun x hx => (by rw [e1] at hx; cases hx; rfl), fun hx => (by rw [e1] at hx; cases hx), fun _ _ hx => (by rw [e1] at hx; cases hx), fun hx => (by rw [e1] at hx; cases hx)⟩
        · have hs : findStep s st d = (b, false) := by rw [hst]; simp [findStep, hn, hk, hb]
          rw [hs]
          exact ⟨fun h => (by rw [e1] at h; simp at h), fun x hx => (by rw [e1] at hx; cases hx), fun _ hx => (by rw [e3] at hx; simp at hx), fun x r _ _ hx => (by rw [e2] at hx; cases hx; rfl), fun _ _ hx => (by rw [e2] at hx; cases hx)⟩
        · obtain ⟨q1, q2, q3, q4⟩ := hd.2 hk
          have hs : findStep s st d = (d, false) := by rw [hst]; simp [findStep, hn, hk, hb]
          rw [hs]
          refine ⟨fun h => (by rw [e1] at h; simp at h), fun x hx => (by rw [e1] at hx; cases hx), fun _ _ => ?_, fun x r _ hx => (by rw [e3] at hx; cases hx), fun _ hx => (by rw [e3] at hx; cases hx)⟩
          rw [e3]
          obtain ⟨dn, dk, df, da, ds, dl⟩ := d
          simp only at *
          subst hn hk q1 q2
          simp only [sizeM, alignM, List.foldl_cons, List.foldl_nil, Prod.mk.injEq, Df.mk.injEq, true_and, and_true]
          omega
    · have hst := h.com hA (by rw [hC]; simp)
      rw [hC] at hst
      rcases hd.1 with hk | hk | hk <;> simp only [hn, hk, hA, hC, true_and, and_true, and_false, if_true, if_false, List.nil_append, Int.reduceEq] at e1 e2 e3
      · have hs : findStep s st d = (d, false) := by rw [hst]; simp [findStep, hn, hk]
        rw [hs]
        exact ⟨fun h => (by rw [e1] at h; simp at h), fun x hx => (by rw [e1] at hx; cases hx; rfl), fun hx => (by rw [e1] at hx; cases hx), fun _ _ hx => (by rw [e1] at hx; cases hx), fun hx => (by rw [e1] at hx; cases hx)⟩
      · have hs : findStep s st d = st := by rw [hst]; simp [findStep, hn, hk]
        rw [hs, hst]
        exact ⟨fun h => (by rw [e1] at h; simp at h), fun x hx => (by rw [e1] at hx; cases hx), fun _ _ => by rw [e3], fun x r _ hx => (by rw [e3] at hx; cases hx), fun _ hx => (by rw [e3] at hx; cases hx)⟩
      · have hs : findStep s st d = (⟨s, 3, 0, 0, max (sizeM (c :: rc)) d.size, max (alignM (c :: rc)) d.align⟩, false) := by rw [hst]; simp [findStep, hn, hk]
        rw [hs]
        refine ⟨fun h => (by rw [e1] at h; simp at h), fun x hx => (by rw [e1] at hx; cases hx), fun _ _ => ?_, fun x r _ hx => (by rw [e3] at hx; cases hx), fun _ hx => (by rw [e3] at hx; cases hx)⟩
        rw [e3, sizeM_snoc, alignM_snoc]
  · have hst := h.one a hA
    have ha := mem_kind (show a ∈ ofKind s 1 l by rw [hA]; simp)
    rcases hd.1 with hk | hk | hk <;> simp only [hn, hk, hA, true_and, and_true, and_false, if_true, if_false, List.nil_append, Int.reduceEq] at e1
    · have hs : findStep s st d = (.zero, true) := by rw [hst]; simp [findStep, hn, hk, ha]
      rw [hs]
      exact ⟨fun _ => rfl, fun x hx => (by rw [e1] at hx; simp at hx), fun hx => (by rw [e1] at hx; simp at hx), fun _ _ hx => (by rw [e1] at hx; simp at hx), fun hx => (by rw [e1] at hx; simp at hx)⟩
    · have hs : findStep s st d = (a, false) := by rw [hst]; simp [findStep, hn, hk, ha]
      rw [hs]
      exact ⟨fun h => (by rw [e1] at h; simp at h), fun x hx => (by rw [e1] at hx; cases hx; rfl), fun hx => (by rw [e1] at hx; cases hx), fun _ _ hx => (by rw [e1] at hx; cases hx), fun hx => (by rw [e1] at hx; cases hx)⟩
    · have hs : findStep s st d = (a, false) := by rw [hst]; simp [findStep, hn, hk, ha]
      rw [hs]
      exact ⟨fun h => (by rw [e1] at h; simp at h), fun x hx => (by rw [e1] at hx; cases hx; rfl), fun hx => (by rw [e1] at hx; cases hx), fun _ _ hx => (by rw [e1] at hx; cases hx), fun hx => (by rw [e1] at hx; cases hx)⟩
  · have hst := h.two (by rw [hA]; simp)
    have hs : findStep s st d = (.zero, true) := by rw [hst]; simp [findStep]
    rw [hs]
    have hl : 1 < (ofKind s 1 (l ++ [d])).length := by
      rw [e1]
      split
      · rw [hA]; simp
      · rw [hA]; simp
    exact ⟨fun _ => rfl, fun x hx => (by rw [hx] at hl; simp at hl), fun hx => (by rw [hx] at hl; simp at hl), fun _ _ hx => (by rw [hx] at hl; simp at hl), fun hx => (by rw [hx] at hl; simp at hl)⟩
theorem found_fold {s : ByteArray} : ∀ (m l : List Df) (st : Df × Bool), (∀ d ∈ m, DfOk d) → FoundSt s l st → FoundSt s (l ++ m) (m.foldl (findStep s) st)
  | [], l, st, _, h => by simpa using h
  | d :: r, l, st, hm, h => by
    have := found_fold r (l ++ [d]) (findStep s st d) (fun x hx => hm x (by simp [hx])) (found_step (hm d (by simp)) h)
    simpa using this
theorem found_eq {l : List Df} (hl : ∀ d ∈ l, DfOk d) (s : ByteArray) : foundL l s = findL l s := by
  have h : FoundSt s l (findSt s l) := by
    have := found_fold (s := s) l [] (.zero, false) hl ⟨fun h => by simp [ofKind] at h, fun d h => by simp [ofKind] at h, fun _ h => by simp [ofKind] at h, fun d r _ _ h => by simp [ofKind] at h, fun _ _ _ => rfl⟩
    simpa [findSt] using this
  unfold foundL findL
  rcases hA : ofKind s 1 l with _ | ⟨a, _ | ⟨a2, r⟩⟩
  · rcases hC : ofKind s 3 l with _ | ⟨c, rc⟩
    · rcases hW : ofKind s 2 l with _ | ⟨b, rb⟩
      · rw [h.none_ hA hC hW]; simp [findEnd, Df.zero]
      · have hb := mem_kind (show b ∈ ofKind s 2 l by rw [hW]; simp)
        rw [h.weak b rb hA hC hW]; simp [findEnd, hb]
    · rw [h.com hA (by rw [hC]; simp), hC]; simp [findEnd]
  · have ha := mem_kind (show a ∈ ofKind s 1 l by rw [hA]; simp)
    rw [h.one a hA]; simp [findEnd, ha]
  · rw [h.two (by rw [hA]; simp)]; simp [findEnd]
end Go.Proofs.YtokiekachlmigaaDoor
