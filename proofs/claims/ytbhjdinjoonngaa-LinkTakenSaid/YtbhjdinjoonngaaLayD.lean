/- layout.Lay: where all stands; what holds of it. No program in sight. -/
import Derived.Test.YtbhjdinjoonngaaUpW
import Derived.Test.YtbhjdinjoonngaaBA
set_option linter.all false
namespace Go.Proofs.Ytbhjdinjoonngaa

theorem upN_le (a n : Nat) (hn : 0 < n) : a ≤ upN a n := by
  unfold upN
  have h1 := Nat.div_add_mod (a + n - 1) n
  have h2 := Nat.mod_lt (a + n - 1) hn
  rw [Nat.mul_comm] at h1
  omega
theorem upN_lt (a n : Nat) (hn : 0 < n) : upN a n < a + n := by
  unfold upN
  have := Nat.div_mul_le_self (a + n - 1) n
  omega
theorem upN_mod (a n : Nat) : upN a n % n = 0 := by unfold upN; exact Nat.mul_mod_left _ _
theorem upN_add (a n m : Nat) (hn : 0 < n) (h : n ∣ m) : upN (a + m) n = upN a n + m := by
  obtain ⟨k, rfl⟩ := h
  unfold upN
  rw [show a + n * k + n - 1 = a + n - 1 + k * n by rw [Nat.mul_comm n k]; omega, Nat.add_mul_div_right _ _ hn, Nat.add_mul, Nat.mul_comm n k]
theorem upN_mono {a b : Nat} (n : Nat) (h : a ≤ b) : upN a n ≤ upN b n := by
  unfold upN
  exact Nat.mul_le_mul_right _ (Nat.div_le_div_right (by omega))

def Frg.al (f : Frg) : Nat := f.align.toNat
def Frg.ln (f : Frg) : Nat := f.long.toNat
/-- Two texts that are alike. -/
def Frg.alike (f g : Frg) : Bool := decide (g.sect = f.sect) && decide (g.align = f.align) && decide (g.bs = f.bs)
theorem alike_iff (f g : Frg) : f.alike g = true ↔ g.sect = f.sect ∧ g.align = f.align ∧ g.bs = f.bs := by unfold Frg.alike; simp [and_assoc]
/-- The fragment whose place it has: its own, or that of the first text that is alike. -/
def firstAt (fs : List Frg) (k : Nat) : Nat :=
  match fs[k]? with
  | some f => if f.sect = 3 then fs.findIdx f.alike else k
  | none => k
/-- Where a section's fragments have come to, from a on, after k. -/
def posAt (fs : List Frg) (s : Int) (a : Nat) : Nat → Nat
  | 0 => a
  | k + 1 => match fs[k]? with
    | some f => if f.sect = s ∧ firstAt fs k = k then upN (posAt fs s a k) f.al + f.ln else posAt fs s a k
    | none => posAt fs s a k
def secEnd (fs : List Frg) (base : Nat) : Nat → Nat
  | 0 => base
  | s + 1 => posAt fs ((s : Int) + 1) (upN (secEnd fs base s) 16) fs.length
def secFrom (fs : List Frg) (base s : Nat) : Nat := upN (secEnd fs base (s - 1)) 16
def plcAt (fs : List Frg) (a : Nat) (k : Nat) : Nat :=
  match fs[firstAt fs k]? with
  | some g => upN (posAt fs g.sect a (firstAt fs k)) g.al
  | none => 0
/-- Where a fragment stands. -/
def adrOf (fs : List Frg) (base k : Nat) : Nat :=
  match fs[k]? with
  | some f => plcAt fs (secFrom fs base f.sect.toNat) k
  | none => 0

structure Lays (fs : List Frg) : Prop where
  n : fs.length ≤ 60
  sect : ∀ f ∈ fs, 1 ≤ f.sect ∧ f.sect ≤ 5
  al : ∀ f ∈ fs, f.align = 1 ∨ f.align = 2 ∨ f.align = 4 ∨ f.align = 8
  ln : ∀ f ∈ fs, 0 ≤ f.long ∧ f.long ≤ 64
theorem alignB_iff {n : Int} : alignB n = true ↔ n = 1 ∨ n = 2 ∨ n = 4 ∨ n = 8 := by unfold alignB; simp [or_assoc]
theorem lays_of {p : Prt} (h : ckPart p = 0) : Lays p.frs := by
  have ho := (ok_iff p).1 h
  have hf : ∀ f ∈ p.frs, (1 ≤ f.sect ∧ f.sect ≤ 5) ∧ (f.align = 1 ∨ f.align = 2 ∨ f.align = 4 ∨ f.align = 8) ∧ 0 ≤ f.long ∧ f.long ≤ 64 := by
    intro f hf
    have h1 := ho.fr f hf
    unfold ckFrag at h1
    split at h1
    · cases h1
    · rename_i g1
      split at h1
      · cases h1
      · split at h1
        · cases h1
        · rename_i g3
          split at h1
          · cases h1
          · rename_i g4
            refine ⟨by omega, alignB_iff.1 ?_, ?_⟩
            · rcases hb : alignB f.align with _ | _
              · exact absurd (.inr (.inr hb)) g1
              · rfl
            · unfold Frg.formed at g4
              unfold Frg.long
              split
              · rename_i h5
                have : ¬ (0 < f.bs.length ∨ 0 < f.rs.length ∨ f.size < 0 ∨ 64 < f.size) := fun h6 => g4 (fun h7 => h7 (.inl ⟨h5, h6⟩))
                omega
              · omega
  exact ⟨ho.n1, fun f h => (hf f h).1, fun f h => (hf f h).2.1, fun f h => (hf f h).2.2⟩
section
variable {fs : List Frg}
theorem Lays.al0 (h : Lays fs) {f : Frg} (hf : f ∈ fs) : 0 < f.al ∧ f.al ≤ 8 ∧ (f.al : Int) = f.align ∧ f.al ∣ 16 := by
  have := h.al f hf
  unfold Frg.al
  refine ⟨by omega, by omega, by omega, ?_⟩
  rcases this with e | e | e | e <;> rw [e] <;> decide
theorem Lays.ln0 (h : Lays fs) {f : Frg} (hf : f ∈ fs) : f.ln ≤ 64 ∧ (f.ln : Int) = f.long := by
  have := h.ln f hf
  unfold Frg.ln
  omega
theorem firstAt_le (k : Nat) : firstAt fs k ≤ k := by
  unfold firstAt
  split
  · rename_i f hf
    split
    · obtain ⟨hk, hv⟩ := List.getElem?_eq_some_iff.1 hf
      rcases Nat.lt_or_ge k (fs.findIdx f.alike) with h | h
      · have := List.not_of_lt_findIdx h
        rw [hv] at this
        exact absurd ((alike_iff f f).2 ⟨rfl, rfl, rfl⟩) (by simpa using this)
      · exact h
    · exact Nat.le_refl _
  · exact Nat.le_refl _
theorem firstAt_text {k : Nat} {f : Frg} (hf : fs[k]? = some f) (h3 : f.sect = 3) : ∃ g, fs[firstAt fs k]? = some g ∧ g.sect = 3 ∧ g.align = f.align ∧ g.bs = f.bs := by
  have hle : firstAt fs k ≤ k := firstAt_le k
  have e : firstAt fs k = fs.findIdx f.alike := by unfold firstAt; rw [hf]; exact if_pos h3
  rw [e] at hle ⊢
  obtain ⟨hk, hv⟩ := List.getElem?_eq_some_iff.1 hf
  have hl : fs.findIdx f.alike < fs.length := by omega
  refine ⟨fs[fs.findIdx f.alike], List.getElem?_eq_getElem hl, ?_⟩
  have := (alike_iff _ _).1 (List.findIdx_getElem (w := hl))
  rw [h3] at this
  exact this
theorem firstAt_other {k : Nat} {f : Frg} (hf : fs[k]? = some f) (h3 : f.sect ≠ 3) : firstAt fs k = k := by unfold firstAt; rw [hf]; exact if_neg h3
theorem firstAt_alike {j k : Nat} {f g : Frg} (hf : fs[k]? = some f) (hg : fs[j]? = some g) (h3 : f.sect = 3) (hs : g.sect = 3) (ha : g.align = f.align) (hb : g.bs = f.bs) : firstAt fs j = firstAt fs k := by
  unfold firstAt
  rw [hf, hg]
  simp only [h3, hs, if_true]
  congr 1
  funext x
  unfold Frg.alike
  rw [h3, hs, ha, hb]
theorem firstAt_min {j k : Nat} {f g : Frg} (hf : fs[k]? = some f) (hg : fs[j]? = some g) (h3 : f.sect = 3) (hs : g.sect = 3) (ha : g.align = f.align) (hb : g.bs = f.bs) : firstAt fs k ≤ j := by
  rw [← firstAt_alike hf hg h3 hs ha hb]; exact firstAt_le j
/-- What has no place of its own. -/
theorem firstAt_iff {k : Nat} {f : Frg} (hf : fs[k]? = some f) (h3 : f.sect = 3) : firstAt fs k ≠ k ↔ ∃ j, j < k ∧ ∃ g, fs[j]? = some g ∧ g.sect = 3 ∧ g.align = f.align ∧ g.bs = f.bs := by
  constructor
  · intro h
    obtain ⟨g, h1, h2⟩ := firstAt_text hf h3
    exact ⟨firstAt fs k, by have := firstAt_le (fs := fs) k; omega, g, h1, h2⟩
  · rintro ⟨j, hj, g, hg, h1, h2, h4⟩
    have := firstAt_min hf hg h3 h1 h2 h4
    omega
theorem firstAt_twice (k : Nat) : firstAt fs (firstAt fs k) = firstAt fs k := by
  rcases hf : fs[k]? with _ | f
  · have : firstAt fs k = k := by unfold firstAt; rw [hf]
    rw [this, this]
  · by_cases h3 : f.sect = 3
    · obtain ⟨g, h1, h2, h4, h5⟩ := firstAt_text hf h3
      exact firstAt_alike hf h1 h3 h2 h4 h5
    · rw [firstAt_other hf h3, firstAt_other hf h3]

theorem posAt_step {s : Int} {a k : Nat} {f : Frg} (hf : fs[k]? = some f) (h1 : f.sect = s) (h2 : firstAt fs k = k) : posAt fs s a (k + 1) = upN (posAt fs s a k) f.al + f.ln := by
  rw [posAt, hf]; exact if_pos ⟨h1, h2⟩
theorem posAt_skip {s : Int} {a k : Nat} {f : Frg} (hf : fs[k]? = some f) (h : f.sect ≠ s ∨ firstAt fs k ≠ k) : posAt fs s a (k + 1) = posAt fs s a k := by
  rw [posAt, hf]; exact if_neg (fun h' => h.elim (fun h => h h'.1) (fun h => h h'.2))
theorem posAt_next (hl : Lays fs) (s : Int) (a k : Nat) : posAt fs s a k ≤ posAt fs s a (k + 1) ∧ posAt fs s a (k + 1) ≤ posAt fs s a k + 72 := by
  rcases hf : fs[k]? with _ | f
  · have e : posAt fs s a (k + 1) = posAt fs s a k := by rw [posAt, hf]
    omega
  · have hm := List.mem_of_getElem? hf
    have h1 := hl.al0 hm
    have h2 := hl.ln0 hm
    by_cases h : f.sect = s ∧ firstAt fs k = k
    · rw [posAt_step hf h.1 h.2]
      have := upN_le (posAt fs s a k) f.al h1.1
      have := upN_lt (posAt fs s a k) f.al h1.1
      omega
    · rw [posAt_skip hf (Decidable.not_and_iff_or_not.1 h)]; omega
theorem posAt_up (hl : Lays fs) (s : Int) (a j : Nat) : ∀ k, j ≤ k → posAt fs s a j ≤ posAt fs s a k
  | 0, h => by obtain rfl : j = 0 := by omega
               exact Nat.le_refl _
  | k + 1, h => by
    rcases Nat.lt_or_ge k j with h1 | h1
    · obtain rfl : j = k + 1 := by omega
      exact Nat.le_refl _
    · exact Nat.le_trans (posAt_up hl s a j k h1) (posAt_next hl s a k).1
theorem posAt_far (hl : Lays fs) (s : Int) (a : Nat) : ∀ k, posAt fs s a k ≤ a + 72 * k
  | 0 => Nat.le_refl _
  | k + 1 => by have := posAt_far hl s a k; have := (posAt_next hl s a k).2; omega
theorem posAt_mono (hl : Lays fs) (s : Int) {a b : Nat} (h : a ≤ b) : ∀ k, posAt fs s a k ≤ posAt fs s b k
  | 0 => h
  | k + 1 => by
    have ih := posAt_mono hl s h k
    rcases hf : fs[k]? with _ | f
    · rw [posAt, posAt, hf]; exact ih
    · by_cases h : f.sect = s ∧ firstAt fs k = k
      · rw [posAt_step hf h.1 h.2, posAt_step hf h.1 h.2]
        exact Nat.add_le_add_right (upN_mono _ ih) _
      · rw [posAt_skip hf (Decidable.not_and_iff_or_not.1 h), posAt_skip hf (Decidable.not_and_iff_or_not.1 h)]; exact ih
theorem posAt_moved (hl : Lays fs) (s : Int) (a m : Nat) (hm : 16 ∣ m) : ∀ k, posAt fs s (a + m) k = posAt fs s a k + m
  | 0 => rfl
  | k + 1 => by
    have ih := posAt_moved hl s a m hm k
    rcases hf : fs[k]? with _ | f
    · rw [posAt, posAt, hf]; exact ih
    · by_cases h : f.sect = s ∧ firstAt fs k = k
      · have h1 := hl.al0 (List.mem_of_getElem? hf)
        rw [posAt_step hf h.1 h.2, posAt_step hf h.1 h.2, ih, upN_add _ _ _ h1.1 (Nat.dvd_trans h1.2.2.2 hm)]
        omega
      · rw [posAt_skip hf (Decidable.not_and_iff_or_not.1 h), posAt_skip hf (Decidable.not_and_iff_or_not.1 h)]; exact ih
theorem secEnd_next (hl : Lays fs) (base s : Nat) : secEnd fs base s ≤ secFrom fs base (s + 1) ∧ secFrom fs base (s + 1) ≤ secEnd fs base (s + 1) ∧ secFrom fs base (s + 1) < secEnd fs base s + 16 ∧ secEnd fs base (s + 1) ≤ secEnd fs base s + 4336 := by
  unfold secFrom
  rw [Nat.add_sub_cancel]
  have h1 := upN_le (secEnd fs base s) 16 (by omega)
  have h2 := upN_lt (secEnd fs base s) 16 (by omega)
  have h3 := posAt_up hl ((s : Int) + 1) (upN (secEnd fs base s) 16) 0 fs.length (Nat.zero_le _)
  have h4 := posAt_far hl ((s : Int) + 1) (upN (secEnd fs base s) 16) fs.length
  have hn := hl.n
  have e : posAt fs ((s : Int) + 1) (upN (secEnd fs base s) 16) 0 = upN (secEnd fs base s) 16 := rfl
  have e2 : secEnd fs base (s + 1) = posAt fs ((s : Int) + 1) (upN (secEnd fs base s) 16) fs.length := rfl
  omega
theorem secEnd_moved (hl : Lays fs) (base m : Nat) (hm : 16 ∣ m) : ∀ s, secEnd fs (base + m) s = secEnd fs base s + m
  | 0 => rfl
  | s + 1 => by
    rw [secEnd, secEnd, secEnd_moved hl base m hm s, upN_add _ _ _ (by omega) hm, posAt_moved hl _ _ _ hm]
theorem secFrom_moved (hl : Lays fs) (base m : Nat) (hm : 16 ∣ m) (s : Nat) : secFrom fs (base + m) s = secFrom fs base s + m := by
  unfold secFrom
  rw [secEnd_moved hl _ _ hm, upN_add _ _ _ (by omega) hm]
theorem plcAt_eq {k : Nat} {g : Frg} (a : Nat) (hg : fs[firstAt fs k]? = some g) : plcAt fs a k = upN (posAt fs g.sect a (firstAt fs k)) g.al := by unfold plcAt; rw [hg]
theorem adrOf_eq {k : Nat} {f : Frg} (base : Nat) (hf : fs[k]? = some f) : adrOf fs base k = plcAt fs (secFrom fs base f.sect.toNat) k := by unfold adrOf; rw [hf]
/-- The fragment that stands where k does. -/
theorem first_get {k : Nat} {f : Frg} (hf : fs[k]? = some f) : ∃ g, fs[firstAt fs k]? = some g ∧ g.sect = f.sect ∧ g.align = f.align ∧ (f.sect = 3 → g.bs = f.bs) ∧ g.ln = f.ln := by
  by_cases h3 : f.sect = 3
  · obtain ⟨g, h1, h2, h4, h5⟩ := firstAt_text hf h3
    refine ⟨g, h1, by rw [h2, h3], h4, fun _ => h5, ?_⟩
    unfold Frg.ln Frg.long
    rw [h2, h3, h5, if_neg (by decide), if_neg (by decide)]
  · rw [firstAt_other hf h3]
    exact ⟨f, hf, rfl, rfl, fun h => absurd h h3, rfl⟩
theorem adrOf_moved (hl : Lays fs) (base m : Nat) (hm : 16 ∣ m) {k : Nat} (hk : k < fs.length) : adrOf fs (base + m) k = adrOf fs base k + m := by
  obtain ⟨f, hf⟩ : ∃ f, fs[k]? = some f := ⟨_, List.getElem?_eq_getElem hk⟩
  obtain ⟨g, hg, _⟩ := first_get hf
  have h1 := hl.al0 (List.mem_of_getElem? hg)
  rw [adrOf_eq _ hf, adrOf_eq _ hf, plcAt_eq _ hg, plcAt_eq _ hg, secFrom_moved hl _ _ hm, posAt_moved hl _ _ _ hm, upN_add _ _ _ h1.1 (Nat.dvd_trans h1.2.2.2 hm)]
end
/-- The common names, one behind the other. -/
structure CSt where
  at_ : Nat
  ns : List ByteArray
  cs : List Nat
def comStep (dfs : List Df) (st : CSt) (n : ByteArray) : CSt :=
  if (findL dfs n).2 = 0 ∧ (findL dfs n).1.kind = 3 then
    ⟨upN st.at_ (findL dfs n).1.align.toNat + (findL dfs n).1.size.toNat, st.ns ++ [n], st.cs ++ [upN st.at_ (findL dfs n).1.align.toNat]⟩
  else st
def comAt (dfs : List Df) (a : Nat) (l : List ByteArray) : CSt := l.foldl (comStep dfs) ⟨a, [], []⟩
theorem comAt_snoc (dfs : List Df) (a : Nat) (l : List ByteArray) (n : ByteArray) : comAt dfs a (l ++ [n]) = comStep dfs (comAt dfs a l) n := by unfold comAt; rw [List.foldl_append]; rfl
theorem comStep_yes {dfs : List Df} {st : CSt} {n : ByteArray} {d : Df} (h : findL dfs n = (d, 0)) (h3 : d.kind = 3) : comStep dfs st n = ⟨upN st.at_ d.align.toNat + d.size.toNat, st.ns ++ [n], st.cs ++ [upN st.at_ d.align.toNat]⟩ := by
  unfold comStep; rw [h]; exact if_pos ⟨rfl, h3⟩
theorem comStep_no {dfs : List Df} {st : CSt} {n : ByteArray} (h : ¬ ((findL dfs n).2 = 0 ∧ (findL dfs n).1.kind = 3)) : comStep dfs st n = st := if_neg h

/-- A common definition that may be. -/
def Df.comOk (d : Df) : Prop := d.kind = 3 → (d.align = 1 ∨ d.align = 2 ∨ d.align = 4 ∨ d.align = 8) ∧ 1 ≤ d.size ∧ d.size ≤ 64
theorem comOk_step {s : ByteArray} {st : Df × Bool} {d : Df} (h : st.1.comOk) (hd : d.comOk) : (findStep s st d).1.comOk := by
  unfold findStep
  split
  · exact h
  · split
    · exact h
    · split
      · intro h; exact absurd h (by decide)
      · split
        · exact hd
        · split
          · rename_i _ _ _ h4 h5
            intro _
            obtain ⟨a1, a2, a3⟩ := h h5.2
            obtain ⟨b1, b2, b3⟩ := hd h5.1
            simp only
            refine ⟨?_, by omega, by omega⟩
            rcases a1 with e | e | e | e <;> rcases b1 with e' | e' | e' | e' <;> rw [e, e'] <;> decide
          · exact h
theorem comOk_fold {s : ByteArray} : ∀ (l : List Df) (st : Df × Bool), st.1.comOk → (∀ d ∈ l, d.comOk) → (l.foldl (findStep s) st).1.comOk
  | [], _, h, _ => h
  | d :: r, st, h, hl => comOk_fold r _ (comOk_step h (hl d (by simp))) (fun d' hd' => hl d' (by simp [hd']))
theorem comOk_find {dfs : List Df} (hl : ∀ d ∈ dfs, d.comOk) (s : ByteArray) : (findL dfs s).1.comOk := by
  have hz : Df.zero.comOk := fun h => absurd h (by decide)
  unfold findL findEnd
  split
  · exact hz
  · split
    · exact hz
    · exact comOk_fold dfs _ hz hl
theorem comOk_of {p : Prt} (h : ckPart p = 0) : ∀ d ∈ p.dfs, d.comOk := by
  intro d hd h3
  have h1 := ((ok_iff p).1 h).df d hd
  unfold ckDef at h1
  split at h1
  · cases h1
  · rw [if_neg (by omega)] at h1
    split at h1
    · cases h1
    · rename_i g
      refine ⟨alignB_iff.1 ?_, by omega, by omega⟩
      rcases hb : alignB d.align with _ | _
      · exact absurd (.inr (.inr (.inr (.inr hb)))) g
      · rfl
theorem com_al {d : Df} (h : d.comOk) (h3 : d.kind = 3) : 0 < d.align.toNat ∧ d.align.toNat ≤ 8 ∧ (d.align.toNat : Int) = d.align ∧ d.align.toNat ∣ 16 ∧ d.size.toNat ≤ 64 ∧ 1 ≤ d.size.toNat ∧ (d.size.toNat : Int) = d.size := by
  obtain ⟨h1, h2, h4⟩ := h h3
  refine ⟨by omega, by omega, by omega, ?_, by omega, by omega, by omega⟩
  rcases h1 with e | e | e | e <;> rw [e] <;> decide
theorem com_cases (dfs : List Df) (n : ByteArray) : (∃ d, findL dfs n = (d, 0) ∧ d.kind = 3) ∨ ¬ ((findL dfs n).2 = 0 ∧ (findL dfs n).1.kind = 3) := by
  by_cases h : (findL dfs n).2 = 0 ∧ (findL dfs n).1.kind = 3
  · exact .inl ⟨_, by rw [← h.1], h.2⟩
  · exact .inr h
/-- What holds of common names laid out: each aligned, one behind the other. -/
structure Com (dfs : List Df) (a : Nat) (l : List ByteArray) (st : CSt) : Prop where
  len : st.ns.length = st.cs.length
  sub : st.ns.Sublist l
  le : a ≤ st.at_
  far : st.at_ ≤ a + 72 * l.length
  each : ∀ (i : Nat) (n : ByteArray) (c : Nat), st.ns[i]? = some n → st.cs[i]? = some c → ∃ d, findL dfs n = (d, 0) ∧ d.kind = 3 ∧ c % d.align.toNat = 0 ∧ a ≤ c ∧ c + d.size.toNat ≤ st.at_ ∧ ∀ (j : Nat) (n' : ByteArray) (c' : Nat), i < j → st.ns[j]? = some n' → st.cs[j]? = some c' → c + d.size.toNat ≤ c'
theorem Com.step {dfs : List Df} (hd : ∀ d ∈ dfs, d.comOk) {a : Nat} {l : List ByteArray} {st : CSt} (h : Com dfs a l st) (n : ByteArray) : Com dfs a (l ++ [n]) (comStep dfs st n) := by
  rcases com_cases dfs n with ⟨d, hf, h3⟩ | hno
  · rw [comStep_yes hf h3]
    have hc : d.comOk := by have := comOk_find hd n; rw [hf] at this; exact this
    obtain ⟨a1, a2, a3, a4, a5, a6, a7⟩ := com_al hc h3
    have u1 := upN_le st.at_ d.align.toNat a1
    have u2 := upN_lt st.at_ d.align.toNat a1
    have hle := h.le
    have hfar := h.far
    refine ⟨by simp [h.len], h.sub.append (List.Sublist.refl _), by simp only; omega, by simp only [List.length_append, List.length_singleton]; omega, ?_⟩
    intro i n' c' h1 h2
    simp only at h1 h2 ⊢
    rcases Nat.lt_or_ge i st.ns.length with hi | hi
    · rw [List.getElem?_append_left hi] at h1
      rw [List.getElem?_append_left (by rw [← h.len]; exact hi)] at h2
      obtain ⟨d', e1, e2, e3, e4, e5, e6⟩ := h.each i n' c' h1 h2
      refine ⟨d', e1, e2, e3, e4, by omega, ?_⟩
      intro j m c'' hij hj1 hj2
      rcases Nat.lt_or_ge j st.ns.length with hj | hj
      · rw [List.getElem?_append_left hj] at hj1
        rw [List.getElem?_append_left (by rw [← h.len]; exact hj)] at hj2
        exact e6 j m c'' hij hj1 hj2
      · rw [List.getElem?_append_right (by rw [← h.len]; exact hj)] at hj2
        obtain rfl : c'' = upN st.at_ d.align.toNat := by
          rcases hx : j - st.cs.length with _ | x
          · rw [hx] at hj2; simpa using hj2.symm
          · rw [hx] at hj2; simp at hj2
        omega
    · rw [List.getElem?_append_right hi] at h1
      rw [List.getElem?_append_right (by rw [← h.len]; exact hi)] at h2
      have hx : i = st.ns.length := by
        rcases hx : i - st.ns.length with _ | x
        · omega
        · rw [hx] at h1; simp at h1
      subst hx
      have hl := h.len
      rw [hl, Nat.sub_self] at h2
      rw [Nat.sub_self] at h1
      obtain rfl : n = n' := by simpa using h1
      obtain rfl : upN st.at_ d.align.toNat = c' := by simpa using h2
      refine ⟨d, hf, h3, upN_mod _ _, by omega, Nat.le_refl _, ?_⟩
      intro j m c'' hij hj1 hj2
      have := (List.getElem?_eq_some_iff.1 hj1).1
      simp at this
      omega
  · rw [comStep_no hno]
    exact ⟨h.len, h.sub.trans (List.sublist_append_left _ _), h.le, by have := h.far; simp only [List.length_append, List.length_singleton]; omega, h.each⟩
theorem com_at {dfs : List Df} (hd : ∀ d ∈ dfs, d.comOk) (a : Nat) (l : List ByteArray) : Com dfs a l (comAt dfs a l) := by
  have : ∀ (r l : List ByteArray) (st : CSt), Com dfs a l st → Com dfs a (l ++ r) (r.foldl (comStep dfs) st) := by
    intro r
    induction r with
    | nil => intro l st h; rw [List.append_nil]; exact h
    | cons x r ih =>
      intro l st h
      have := ih _ _ (h.step hd x)
      rw [List.append_assoc] at this
      exact this
  have h := this l [] ⟨a, [], []⟩ ⟨rfl, List.Sublist.refl _, Nat.le_refl _, by simp, fun i n c h => by simp at h⟩
  rw [List.nil_append] at h
  exact h
theorem comAt_moved {dfs : List Df} (hd : ∀ d ∈ dfs, d.comOk) (a m : Nat) (hm : 16 ∣ m) (l : List ByteArray) : comAt dfs (a + m) l = ⟨(comAt dfs a l).at_ + m, (comAt dfs a l).ns, (comAt dfs a l).cs.map (· + m)⟩ := by
  have : ∀ (r : List ByteArray) (st : CSt), r.foldl (comStep dfs) ⟨st.at_ + m, st.ns, st.cs.map (· + m)⟩ = ⟨(r.foldl (comStep dfs) st).at_ + m, (r.foldl (comStep dfs) st).ns, (r.foldl (comStep dfs) st).cs.map (· + m)⟩ := by
    intro r
    induction r with
    | nil => intro st; rfl
    | cons x r ih =>
      intro st
      rw [List.foldl_cons, List.foldl_cons, ← ih]
      congr 1
      rcases com_cases dfs x with ⟨d, hf, h3⟩ | hno
      · have hc : d.comOk := by have := comOk_find hd x; rw [hf] at this; exact this
        obtain ⟨a1, _, _, a4, _⟩ := com_al hc h3
        rw [comStep_yes hf h3, comStep_yes hf h3, upN_add _ _ _ a1 (Nat.dvd_trans a4 hm)]
        simp only [List.map_append, List.map_cons, List.map_nil, CSt.mk.injEq, and_true, true_and]
        omega
      · rw [comStep_no hno, comStep_no hno]
  exact this l ⟨a, [], []⟩

end Go.Proofs.Ytbhjdinjoonngaa
