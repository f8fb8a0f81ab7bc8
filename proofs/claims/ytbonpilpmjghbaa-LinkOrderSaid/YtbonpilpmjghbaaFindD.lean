/- names.Find: which definition counts; of two rows of definitions, one behind the other. No program in sight. -/
import Derived.Test.YtbonpilpmjghbaaPartK
set_option linter.all false
namespace Go.Proofs.Ytbonpilpmjghbaa
open Go.RowKit

def Df.zero : Df := ⟨⟨#[]⟩, 0, 0, 0, 0, 0⟩
/-- One definition more: the one that counted up to there, and whether two were strong. -/
def findStep (s : ByteArray) (st : Df × Bool) (d : Df) : Df × Bool :=
  if st.2 then st else if d.name ≠ s then st
  else if d.kind = 1 ∧ st.1.kind = 1 then (.zero, true)
  else if st.1.kind = 0 ∨ d.kind = 1 ∨ (d.kind = 3 ∧ st.1.kind = 2) then (d, false)
  else if d.kind = 3 ∧ st.1.kind = 3 then ({ st.1 with size := max st.1.size d.size, align := max st.1.align d.align }, false)
  else st
def findEnd (st : Df × Bool) : Df × Int := if st.2 then (.zero, 6) else if st.1.kind = 0 then (.zero, 7) else (st.1, 0)
def findSt (s : ByteArray) (l : List Df) : Df × Bool := l.foldl (findStep s) (.zero, false)
def findL (l : List Df) (s : ByteArray) : Df × Int := findEnd (findSt s l)
def findP (p : Prt) (s : ByteArray) : Df × Int := if ckPart p ≠ 0 then (.zero, ckPart p) else findL p.dfs s

/-- What a state is: two strong ones, or nothing, or a definition of one of the three kinds. -/
def FSt (st : Df × Bool) : Prop := (st = (.zero, true)) ∨ (st = (.zero, false)) ∨ (st.2 = false ∧ (st.1.kind = 1 ∨ st.1.kind = 2 ∨ st.1.kind = 3))
theorem FSt.step {s : ByteArray} {st : Df × Bool} {d : Df} (h : FSt st) (hd : d.kind = 1 ∨ d.kind = 2 ∨ d.kind = 3) : FSt (findStep s st d) := by
  unfold findStep
  split
  · exact h
  · split
    · exact h
    · split
      · exact .inl rfl
      · split
        · exact .inr (.inr ⟨rfl, hd⟩)
        · split
          · rename_i h1 _ _ _ h5
            exact .inr (.inr ⟨rfl, .inr (.inr h5.2)⟩)
          · exact h
theorem FSt.fold {s : ByteArray} : ∀ {l : List Df} {st : Df × Bool}, FSt st → (∀ d ∈ l, d.kind = 1 ∨ d.kind = 2 ∨ d.kind = 3) → FSt (l.foldl (findStep s) st)
  | [], _, h, _ => h
  | d :: r, _, h, hl => FSt.fold (l := r) (h.step (hl d (by simp))) (fun d' hd' => hl d' (by simp [hd']))
theorem fst_zero : FSt (.zero, false) := .inr (.inl rfl)

/-- Two states, one behind the other. -/
def findComb (A C : Df × Bool) : Df × Bool :=
  if A.2 ∨ C.2 then (.zero, true) else if C.1.kind = 0 then A else if A.1.kind = 0 then C
  else if A.1.kind = 1 ∧ C.1.kind = 1 then (.zero, true)
  else if C.1.kind = 1 ∨ (C.1.kind = 3 ∧ A.1.kind = 2) then C
  else if C.1.kind = 3 ∧ A.1.kind = 3 then ({ A.1 with size := max A.1.size C.1.size, align := max A.1.align C.1.align }, false)
  else A
theorem comb_zero {A : Df × Bool} (h : FSt A) : findComb A (.zero, false) = A := by
  unfold findComb
  rcases h with rfl | rfl | ⟨h, _⟩
  · rfl
  · rfl
  · rw [if_neg (by simp [h]), if_pos (show (Df.zero, false).1.kind = 0 from rfl)]
theorem comb_step {s : ByteArray} {A C : Df × Bool} {d : Df} (hA : FSt A) (hC : FSt C) (hd : d.kind = 1 ∨ d.kind = 2 ∨ d.kind = 3) : findStep s (findComb A C) d = findComb A (findStep s C d) := by
  by_cases hn : d.name = s
  · rcases hA with rfl | rfl | ⟨a2, a1⟩
    · simp [findComb, findStep]
    · rcases hC with rfl | rfl | ⟨c2, c1⟩
      · simp [findComb, findStep]
      · rcases hd with hd | hd | hd <;> simp [findComb, findStep, hn, hd, Df.zero]
      · obtain ⟨c, t⟩ := C
        simp only at c2 c1
        subst c2
        rcases hd with hd | hd | hd <;> rcases c1 with c1 | c1 | c1 <;> simp [findComb, findStep, hn, hd, c1, Df.zero]
    · obtain ⟨a, t⟩ := A
      simp only at a2 a1
      subst a2
      rcases hC with rfl | rfl | ⟨c2, c1⟩
      · simp [findComb, findStep]
      · rcases hd with hd | hd | hd <;> rcases a1 with a1 | a1 | a1 <;> simp [findComb, findStep, hn, hd, a1, Df.zero]
      · obtain ⟨c, t⟩ := C
        simp only at c2 c1
        subst c2
        rcases hd with hd | hd | hd <;> rcases a1 with a1 | a1 | a1 <;> rcases c1 with c1 | c1 | c1 <;> simp [findComb, findStep, hn, hd, a1, c1, Int.max_assoc]
  · have h1 : findStep s C d = C := by unfold findStep; simp [hn]
    rw [h1]
    unfold findStep
    simp [hn]
theorem fold_comb {s : ByteArray} : ∀ {l : List Df} {A C : Df × Bool}, FSt A → FSt C → (∀ d ∈ l, d.kind = 1 ∨ d.kind = 2 ∨ d.kind = 3) → l.foldl (findStep s) (findComb A C) = findComb A (l.foldl (findStep s) C)
  | [], _, _, _, _, _ => rfl
  | d :: r, A, C, hA, hC, hl => by
    rw [List.foldl_cons, List.foldl_cons, comb_step hA hC (hl d (by simp))]
    exact fold_comb hA (hC.step (hl d (by simp))) (fun d' hd' => hl d' (by simp [hd']))
theorem findSt_append {s : ByteArray} {l m : List Df} (hl : ∀ d ∈ l, d.kind = 1 ∨ d.kind = 2 ∨ d.kind = 3) (hm : ∀ d ∈ m, d.kind = 1 ∨ d.kind = 2 ∨ d.kind = 3) : findSt s (l ++ m) = findComb (findSt s l) (findSt s m) := by
  unfold findSt
  have hA := FSt.fold (s := s) fst_zero hl
  rw [List.foldl_append]
  conv => lhs; rw [← comb_zero hA]
  exact fold_comb hA fst_zero hm

/-- A state, its fragment moved. -/
def shSt (n : Nat) (st : Df × Bool) : Df × Bool := (if st.1.kind = 0 then st.1 else st.1.shift n, st.2)
theorem shift_kind (n : Nat) (d : Df) : (d.shift n).kind = d.kind := by unfold Df.shift; split <;> rfl
theorem shift_name (n : Nat) (d : Df) : (d.shift n).name = d.name := by unfold Df.shift; split <;> rfl
theorem shift_size (n : Nat) (d : Df) : (d.shift n).size = d.size := by unfold Df.shift; split <;> rfl
theorem shift_align (n : Nat) (d : Df) : (d.shift n).align = d.align := by unfold Df.shift; split <;> rfl
theorem sh_step {s : ByteArray} {n : Nat} {st : Df × Bool} {d : Df} (hs : FSt st) (hd : d.kind = 1 ∨ d.kind = 2 ∨ d.kind = 3) : findStep s (shSt n st) (d.shift n) = shSt n (findStep s st d) := by
  by_cases hn : d.name = s
  · rcases hs with rfl | rfl | ⟨a2, a1⟩
    · simp [findStep, shSt]
    · have : (d.kind = 0) = False := by simp; omega
      rcases hd with hd | hd | hd <;> simp [findStep, shSt, shift_kind, shift_name, hn, hd, Df.zero]
    · obtain ⟨a, t⟩ := st
      simp only at a2 a1
      subst a2
      rcases hd with hd | hd | hd <;> rcases a1 with a1 | a1 | a1 <;> simp [findStep, shSt, shift_kind, shift_name, hn, hd, a1, Df.zero, Df.shift]
  · have h1 : findStep s st d = st := by unfold findStep; simp [hn]
    rw [h1]
    unfold findStep
    simp [shift_name, hn]
theorem findSt_shift {s : ByteArray} {n : Nat} {l : List Df} (hl : ∀ d ∈ l, d.kind = 1 ∨ d.kind = 2 ∨ d.kind = 3) : findSt s (l.map (Df.shift n)) = shSt n (findSt s l) := by
  have : ∀ (l : List Df) (st : Df × Bool), FSt st → (∀ d ∈ l, d.kind = 1 ∨ d.kind = 2 ∨ d.kind = 3) → (l.map (Df.shift n)).foldl (findStep s) (shSt n st) = shSt n (l.foldl (findStep s) st) := by
    intro l
    induction l with
    | nil => intro _ _ _; rfl
    | cons d r ih =>
      intro st hs hl
      rw [List.map_cons, List.foldl_cons, List.foldl_cons, sh_step hs (hl d (by simp))]
      exact ih _ (hs.step (hl d (by simp))) (fun d' hd' => hl d' (by simp [hd']))
  have h := this l (.zero, false) fst_zero hl
  have e : shSt n (.zero, false) = (.zero, false) := rfl
  rw [e] at h
  exact h

/-- What Find says of two parts joined, by what it says of each. -/
theorem find_joined {s : ByteArray} {n : Nat} {l m : List Df} (hl : ∀ d ∈ l, d.kind = 1 ∨ d.kind = 2 ∨ d.kind = 3) (hm : ∀ d ∈ m, d.kind = 1 ∨ d.kind = 2 ∨ d.kind = 3) :
    findL (l ++ m.map (Df.shift n)) s = findEnd (findComb (findSt s l) (shSt n (findSt s m))) ∧ FSt (findSt s l) ∧ FSt (findSt s m) := by
  refine ⟨?_, FSt.fold fst_zero hl, FSt.fold fst_zero hm⟩
  unfold findL
  rw [findSt_append hl (by
    intro d hd
    obtain ⟨d', h1, rfl⟩ := List.mem_map.1 hd
    rw [shift_kind]; exact hm d' h1), findSt_shift hm]
end Go.Proofs.Ytbonpilpmjghbaa
