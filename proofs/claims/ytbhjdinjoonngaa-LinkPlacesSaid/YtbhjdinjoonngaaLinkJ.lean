/- An image that link.Link makes: it is right; each fragment's bytes are there. No program in sight. -/
import Derived.Test.YtbhjdinjoonngaaLkG
set_option linter.all false
namespace Go.Proofs.Ytbhjdinjoonngaa
open Go.RowKit

/-- Three segments, one behind the other. -/
structure Img3 (g1 g2 g3 : Seg) (f1 t1 f2 t3 f4 t4 t5 : Nat) : Prop where
  a1 : g1.At = (f1 : Int)
  l1 : g1.Bytes.length = t1 - f1
  z1 : g1.Zeros = 0
  a2 : g2.At = (f2 : Int)
  l2 : g2.Bytes.length = t3 - f2
  z2 : g2.Zeros = 0
  a3 : g3.At = (f4 : Int)
  l3 : g3.Bytes.length = t4 - f4
  z3 : g3.Zeros = ((t5 - t4 : Nat) : Int)
  h1 : f1 ≤ t1
  h2 : t1 ≤ f2
  h3 : f2 ≤ t3
  h4 : t3 ≤ f4
  h5 : f4 ≤ t4
  h6 : t4 ≤ t5
  h7 : t5 ≤ 65536
section
variable {g1 g2 g3 : Seg} {f1 t1 f2 t3 f4 t4 t5 : Nat}
theorem Img3.ok (h : Img3 g1 g2 g3 f1 t1 f2 t3 f4 t4 t5) {entry : Int} (h0 : 0 ≤ entry) (h1 : entry ≤ 65536) : ckImg entry [g1, g2, g3] = 0 := by
  obtain ⟨a1, l1, z1, a2, l2, z2, a3, l3, z3, b1, b2, b3, b4, b5, b6, b7⟩ := h
  unfold ckImg
  have hs : ckSegs [g1, g2, g3] 0 = 0 := by
    rw [ckSegs_next (by omega) (by omega) (by omega) (by omega) (by omega) (by omega), ckSegs_next (by omega) (by omega) (by omega) (by omega) (by omega) (by omega), ckSegs_next (by omega) (by omega) (by omega) (by omega) (by omega) (by omega)]
    rfl
  rw [if_neg (by simp), if_neg (by simp [hs]), if_neg (by omega)]
theorem Img3.look1 (h : Img3 g1 g2 g3 f1 t1 f2 t3 f4 t4 t5) {a : Nat} (h0 : f1 ≤ a) (h1 : a < t1) : lookAt [g1, g2, g3] a 0 = some (0, g1) := by
  obtain ⟨a1, l1, z1, a2, l2, z2, a3, l3, z3, b1, b2, b3, b4, b5, b6, b7⟩ := h
  exact lookAt_hit (by omega) (by omega)
theorem Img3.look2 (h : Img3 g1 g2 g3 f1 t1 f2 t3 f4 t4 t5) {a : Nat} (h0 : f2 ≤ a) (h1 : a < t3) : lookAt [g1, g2, g3] a 0 = some (1, g2) := by
  obtain ⟨a1, l1, z1, a2, l2, z2, a3, l3, z3, b1, b2, b3, b4, b5, b6, b7⟩ := h
  rw [lookAt_miss (by omega)]
  exact lookAt_hit (by omega) (by omega)
theorem Img3.look3 (h : Img3 g1 g2 g3 f1 t1 f2 t3 f4 t4 t5) {a : Nat} (h0 : f4 ≤ a) (h1 : a < t5) : lookAt [g1, g2, g3] a 0 = some (2, g3) := by
  obtain ⟨a1, l1, z1, a2, l2, z2, a3, l3, z3, b1, b2, b3, b4, b5, b6, b7⟩ := h
  rw [lookAt_miss (by omega), lookAt_miss (by omega)]
  exact lookAt_hit (by omega) (by omega)
end
section
variable {p : Prt} {base : Nat} {g1 g2 g3 : Seg}
theorem img3_of (h : layE p base = 0) (h1 : g1.er = (segP p base 1 1 [1]).seg) (h2 : g2.er = (segP p base 2 3 [2, 3]).seg) (h3 : g3.er = (segP p base 4 5 [4, 5]).seg) :
    Img3 g1 g2 g3 (secFrom p.frs base 1) (toN p base 1) (secFrom p.frs base 2) (toN p base 3) (secFrom p.frs base 4) (toN p base 4) (toN p base 5) := by
  obtain ⟨a1, a2, a3, a4, a5⟩ := er_at h1
  obtain ⟨b1, b2, b3, b4, b5⟩ := er_at h2
  obtain ⟨c1, c2, c3, c4, c5⟩ := er_at h3
  have l1 := seg_len h trio_one
  have l2 := seg_len h trio_two
  have l3 := seg_len h trio_three
  obtain ⟨_, _, s1, _⟩ := sec_row h (s := 1) (by omega) (by omega)
  obtain ⟨_, s2, s3, _⟩ := sec_row h (s := 2) (by omega) (by omega)
  obtain ⟨_, s4, s5, _⟩ := sec_row h (s := 3) (by omega) (by omega)
  obtain ⟨_, s6, s7, _⟩ := sec_row h (s := 4) (by omega) (by omega)
  obtain ⟨_, s8, s9, s10, _⟩ := sec_row h (s := 5) (by omega) (by omega)
  simp only [show (2 : Nat) - 1 = 1 from rfl, show (3 : Nat) - 1 = 2 from rfl, show (4 : Nat) - 1 = 3 from rfl, show (5 : Nat) - 1 = 4 from rfl] at s2 s4 s6 s8
  exact ⟨a1, by rw [a2, l1]; rfl, a3, b1, by rw [b2, l2]; rfl, b3, c1, by rw [c2, l3]; rfl, c3, s1, s2, by omega, s6, s7, by omega, s10⟩
/-- The segment that a section goes into. -/
def segOf (g1 g2 g3 : Seg) (s : Int) : Seg := if s = 1 then g1 else if s = 2 ∨ s = 3 then g2 else g3
theorem look_sec (h : layE p base = 0) (h1 : g1.er = (segP p base 1 1 [1]).seg) (h2 : g2.er = (segP p base 2 3 [2, 3]).seg) (h3 : g3.er = (segP p base 4 5 [4, 5]).seg) {s a : Nat} (hs1 : 1 ≤ s) (hs5 : s ≤ 5) (ha : secFrom p.frs base s ≤ a) (hb : a < toN p base s) :
    ∃ j, lookAt [g1, g2, g3] a 0 = some (j, segOf g1 g2 g3 s) := by
  have hi := img3_of h h1 h2 h3
  unfold segOf
  rcases (by omega : s = 1 ∨ (s = 2 ∨ s = 3) ∨ (s = 4 ∨ s = 5)) with e | e | e
  · rw [if_pos (by omega)]
    subst e
    exact ⟨0, hi.look1 ha hb⟩
  · rw [if_neg (by omega), if_pos (by omega)]
    have x1 := from_up h (f := 2) (s := s) (by omega) (by omega) (by omega)
    have x2 := toN_up h (3 - s) s (by omega) (by omega)
    rw [show s + (3 - s) = 3 by omega] at x2
    exact ⟨1, hi.look2 (by omega) (by omega)⟩
  · rw [if_neg (by omega), if_neg (by omega)]
    have x1 := from_up h (f := 4) (s := s) (by omega) (by omega) (by omega)
    have x2 := toN_up h (5 - s) s (by omega) (by omega)
    rw [show s + (5 - s) = 5 by omega] at x2
    exact ⟨2, hi.look3 (by omega) (by omega)⟩
theorem segOf_marks (h1 : g1.er = (segP p base 1 1 [1]).seg) (h2 : g2.er = (segP p base 2 3 [2, 3]).seg) (h3 : g3.er = (segP p base 4 5 [4, 5]).seg) {s : Int} (hs1 : 1 ≤ s) (hs5 : s ≤ 5) : (segOf g1 g2 g3 s).Writes = decide (4 ≤ s) ∧ (segOf g1 g2 g3 s).Works = decide (s = 1) := by
  obtain ⟨_, _, _, a4, a5⟩ := er_at h1
  obtain ⟨_, _, _, b4, b5⟩ := er_at h2
  obtain ⟨_, _, _, c4, c5⟩ := er_at h3
  unfold segOf
  split
  · rename_i e
    subst e
    exact ⟨a4, a5⟩
  · split
    · rename_i n1 e
      rw [b4, b5]
      refine ⟨?_, ?_⟩
      · symm; exact decide_eq_false (by omega)
      · symm; exact decide_eq_false (by omega)
    · rename_i n1 n2
      rw [c4, c5]
      refine ⟨?_, ?_⟩
      · symm; exact decide_eq_true (by omega)
      · symm; exact decide_eq_false (by omega)
/-- A byte of a fragment. -/
theorem byte_of (h : layE p base = 0) (h1 : g1.er = (segP p base 1 1 [1]).seg) (h2 : g2.er = (segP p base 2 3 [2, 3]).seg) (h3 : g3.er = (segP p base 4 5 [4, 5]).seg) {i : Nat} {f : Frg} (hf : p.frs[i]? = some f) {k : Nat} (hk : k < f.ln) :
    ∃ j, lookAt [g1, g2, g3] ((adrOf p.frs base i + k : Nat) : Int) 0 = some (j, segOf g1 g2 g3 f.sect) ∧ (f.sect = 5 → (segOf g1 g2 g3 f.sect).byte ((adrOf p.frs base i + k : Nat) : Int) = 0) ∧
      (f.sect ≠ 5 → ∃ b, (filledP p base i).1[k]? = some b ∧ (segOf g1 g2 g3 f.sect).byte ((adrOf p.frs base i + k : Nat) : Int) = b) := by
  obtain ⟨hc, _⟩ := layE_zero h
  have hs := (lays_of hc).sect f (List.mem_of_getElem? hf)
  have ha := adr_le h hf
  obtain ⟨j, hj⟩ := look_sec h h1 h2 h3 (s := f.sect.toNat) (a := adrOf p.frs base i + k) (by omega) (by omega) (by omega) (by omega)
  rw [show ((f.sect.toNat : Nat) : Int) = f.sect by omega] at hj
  have hff := frag_fine hc (List.mem_of_getElem? hf)
  refine ⟨j, hj, fun h5 => ?_, fun h5 => ?_⟩
  · have hi := img3_of h h1 h2 h3
    have e : segOf g1 g2 g3 f.sect = g3 := by unfold segOf; rw [if_neg (by omega), if_neg (by omega)]
    rw [e]
    obtain ⟨_, s8, _⟩ := sec_row h (s := 5) (by omega) (by omega)
    simp only [show (5 : Nat) - 1 = 4 from rfl] at s8
    rw [h5] at ha
    have ha1 : secFrom p.frs base 5 ≤ adrOf p.frs base i := ha.1
    have e3 := hi.a3
    have e4 := hi.l3
    have e5 := hi.h5
    exact byte_out (by omega)
  · have hl := filled_len hc (base := base) hf
    have hln := hff.ln h5
    obtain ⟨b, hb⟩ : ∃ b, (filledP p base i).1[k]? = some b := ⟨_, List.getElem?_eq_getElem (by omega)⟩
    refine ⟨b, hb, ?_⟩
    have key : ∀ {sects : List Int} {fi la : Nat} {g : Seg}, Trio sects fi la → g.er = (segP p base fi la sects).seg → f.sect ∈ sects → g.byte ((adrOf p.frs base i + k : Nat) : Int) = b := by
      intro sects fi la g ht hg hm
      obtain ⟨a1, a2, _⟩ := er_at hg
      have hin := seg_into h ht i f ⟨hf, h5, hm⟩
      have hat := seg_at (end_ := segEnd p base la) h (seg_into h ht) p.frs.length (Nat.le_refl _) i f (List.getElem?_eq_some_iff.1 hf).1 ⟨hf, h5, hm⟩ k (by omega)
      unfold Seg.byte
      rw [a1, a2]
      have e1 : (((adrOf p.frs base i + k : Nat) : Int) - ((segP p base fi la sects).at_ : Int)).toNat = adrOf p.frs base i - secFrom p.frs base fi + k := by
        show (((adrOf p.frs base i + k : Nat) : Int) - ((secFrom p.frs base fi : Nat) : Int)).toNat = _
        omega
      rw [e1, List.getD_eq_getElem?_getD]
      have e2 : (segP p base fi la sects).bs = segBytes p base (secFrom p.frs base fi) (segEnd p base la) sects p.frs.length := rfl
      rw [e2, hat, hb]
      rfl
    unfold segOf
    rcases (by omega : f.sect = 1 ∨ (f.sect = 2 ∨ f.sect = 3) ∨ f.sect = 4) with e | e | e
    · rw [if_pos e]
      exact key trio_one h1 (by rw [e]; simp)
    · rw [if_neg (by omega), if_pos e]
      exact key trio_two h2 (by rcases e with e | e <;> rw [e] <;> simp)
    · rw [if_neg (by omega), if_neg (by omega)]
      exact key trio_three h3 (by rw [e]; simp)
/-- All bytes of a fragment. -/
theorem range_of (h : layE p base = 0) (h1 : g1.er = (segP p base 1 1 [1]).seg) (h2 : g2.er = (segP p base 2 3 [2, 3]).seg) (h3 : g3.er = (segP p base 4 5 [4, 5]).seg) {i : Nat} {f : Frg} (hf : p.frs[i]? = some f) (h5 : f.sect ≠ 5) :
    ∀ n, n ≤ f.bs.length → rangeB [g1, g2, g3] ((adrOf p.frs base i : Nat) : Int) n = some ((filledP p base i).1.take n)
  | 0, _ => by simp [rangeB]
  | n + 1, hn => by
    obtain ⟨hc, _⟩ := layE_zero h
    have ih := range_of h h1 h2 h3 hf h5 n (by omega)
    have hln := (frag_fine hc (List.mem_of_getElem? hf)).ln h5
    obtain ⟨j, hj, _, hb⟩ := byte_of h h1 h2 h3 hf (k := n) (by omega)
    obtain ⟨b, hb1, hb2⟩ := hb h5
    have hj' : lookAt [g1, g2, g3] (((adrOf p.frs base i : Nat) : Int) + (n : Int)) 0 = some (j, segOf g1 g2 g3 f.sect) := hj
    rw [rangeB_step ih hj', List.take_add_one, hb1]
    have hb3 : (segOf g1 g2 g3 f.sect).byte (((adrOf p.frs base i : Nat) : Int) + (n : Int)) = b := hb2
    rw [hb3]
    rfl
/-- Where it begins is there, or at a section's end. -/
theorem entry_at (h : layE p base = 0) (h1 : g1.er = (segP p base 1 1 [1]).seg) (h2 : g2.er = (segP p base 2 3 [2, 3]).seg) (h3 : g3.er = (segP p base 4 5 [4, 5]).seg) {s : ByteArray} (h0 : (whereA p base s).2 = 0) :
    (lookAt [g1, g2, g3] (whereA p base s).1 0).isSome = true ∨ ∃ t, 1 ≤ t ∧ t ≤ 5 ∧ (whereA p base s).1 = (toN p base t : Nat) := by
  obtain ⟨t, t1, t5, ha, hb, _⟩ := where_in h h0
  by_cases hlt : (whereA p base s).1 < (toN p base t : Nat)
  · refine .inl ?_
    obtain ⟨a, hae⟩ : ∃ a : Nat, (whereA p base s).1 = a := ⟨(whereA p base s).1.toNat, by omega⟩
    obtain ⟨j, hj⟩ := look_sec h h1 h2 h3 (s := t) (a := a) t1 t5 (by omega) (by omega)
    rw [hae, hj]
    rfl
  · exact .inr ⟨t, t1, t5, by omega⟩
end
end Go.Proofs.Ytbhjdinjoonngaa
