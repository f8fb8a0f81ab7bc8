/- layout.Lay: what lies in memory while it lays: the table of texts, the row of addresses, where sections begin and end. No program in sight. -/
import Derived.Test.YtbhjdinjoonngaaLayD
import Derived.Maps.OwnSet
set_option linter.all false
namespace Go.Proofs.Ytbhjdinjoonngaa
open Go.RowKit Go.Maps

def strLit (s : ByteArray) : Lit := .string s.data.toList
theorem strLit_inj {s t : ByteArray} (h : strLit s = strLit t) : s = t := by
  unfold strLit at h
  injection h with h
  exact bytes_ext h
theorem strLit_key (s : ByteArray) : WideAt.IsKeyLit (strLit s) := trivial

def Frg.key (f : Frg) : ByteArray := ⟨f.bs.toArray⟩ ++ ⟨#[UInt8.ofNat f.align.toNat]⟩
theorem key_iff {f g : Frg} (hf : f.align = 1 ∨ f.align = 2 ∨ f.align = 4 ∨ f.align = 8) (hg : g.align = 1 ∨ g.align = 2 ∨ g.align = 4 ∨ g.align = 8) : g.key = f.key ↔ g.align = f.align ∧ g.bs = f.bs := by
  constructor
  · intro h
    have h1 := congrArg (fun s : ByteArray => s.data.toList) h
    simp only [Frg.key, ByteArray.data_append, Array.toList_append] at h1
    obtain ⟨h2, h3⟩ := List.append_inj' h1 rfl
    refine ⟨?_, h2⟩
    rcases hf with e | e | e | e <;> rcases hg with e' | e' | e' | e' <;> rw [e, e'] at h3 <;> first | (rw [e, e']; done) | (exact absurd h3 (by decide))
  · rintro ⟨h1, h2⟩
    unfold Frg.key
    rw [h1, h2]

/-- The table of a section's texts after k fragments. -/
structure Tex (fs : List Frg) (base : Nat) (s : Int) (k : Nat) (D : DataW Unit) : Prop where
  isMap : IsMap D
  has_ : ∀ x : ByteArray, Maps.has D (strLit x) = true ↔ ∃ j, j < k ∧ ∃ f, fs[j]? = some f ∧ f.sect = s ∧ f.key = x
  at_ : s = 3 → ∀ j, j < k → ∀ f, fs[j]? = some f → f.sect = 3 → D.atKey (strLit f.key) (.lit (.int .i64 0)) = .lit (.int .i64 (adrOf fs base j))
section
variable {fs : List Frg} {base k : Nat} {s : Int} {D : DataW Unit}
theorem tex_zero (fs : List Frg) (base : Nat) (s : Int) : Tex fs base s 0 (.map []) :=
  ⟨isMap_empty, fun x => ⟨fun h => by simp [Maps.has] at h, fun ⟨j, hj, _⟩ => absurd hj (by omega)⟩, fun _ j hj => absurd hj (by omega)⟩
theorem Tex.skip (h : Tex fs base s k D) {f : Frg} (hf : fs[k]? = some f) (hs : f.sect ≠ s) : Tex fs base s (k + 1) D := by
  refine ⟨h.isMap, fun x => (h.has_ x).trans ⟨fun ⟨j, hj, r⟩ => ⟨j, by omega, r⟩, ?_⟩, ?_⟩
  · rintro ⟨j, hj, g, hg, h1, h2⟩
    rcases Nat.lt_or_ge j k with hjk | hjk
    · exact ⟨j, hjk, g, hg, h1, h2⟩
    · obtain rfl : j = k := by omega
      rw [hf] at hg; injection hg with hg; rw [hg] at hs; exact absurd h1 hs
  · intro h3 j hj g hg hgs
    rcases Nat.lt_or_ge j k with hjk | hjk
    · exact h.at_ h3 j hjk g hg hgs
    · obtain rfl : j = k := by omega
      rw [hf] at hg; injection hg with hg; rw [hg] at hs; exact absurd (hgs.trans h3.symm) hs
theorem adr_alike (hl : Lays fs) {j k : Nat} {f g : Frg} (hf : fs[k]? = some f) (hg : fs[j]? = some g) (h3 : f.sect = 3) (hs : g.sect = 3) (he : g.key = f.key) : adrOf fs base j = adrOf fs base k := by
  obtain ⟨h1, h2⟩ := (key_iff (hl.al f (List.mem_of_getElem? hf)) (hl.al g (List.mem_of_getElem? hg))).1 he
  have e := firstAt_alike hf hg h3 hs h1 h2
  rw [adrOf_eq _ hf, adrOf_eq _ hg, h3, hs]
  unfold plcAt
  rw [e]
/-- A text that stood there already. -/
theorem Tex.old (hl : Lays fs) (h : Tex fs base 3 k D) {f : Frg} (hf : fs[k]? = some f) (hs : f.sect = 3) (hh : Maps.has D (strLit f.key) = true) :
    Tex fs base 3 (k + 1) D ∧ firstAt fs k ≠ k ∧ D.atKey (strLit f.key) (.lit (.int .i64 0)) = .lit (.int .i64 (adrOf fs base k)) := by
  obtain ⟨j, hj, g, hg, h1, h2⟩ := (h.has_ _).1 hh
  have he := adr_alike (base := base) hl hf hg hs h1 h2
  have hat := h.at_ rfl j hj g hg h1
  rw [h2, he] at hat
  refine ⟨⟨h.isMap, fun x => (h.has_ x).trans ⟨fun ⟨j, hj, r⟩ => ⟨j, by omega, r⟩, ?_⟩, ?_⟩, ?_, hat⟩
  · rintro ⟨j', hj', g', hg', h1', h2'⟩
    rcases Nat.lt_or_ge j' k with hjk | hjk
    · exact ⟨j', hjk, g', hg', h1', h2'⟩
    · obtain rfl : j' = k := by omega
      rw [hf] at hg'; injection hg' with hg'; rw [← hg'] at h2'
      exact ⟨j, hj, g, hg, h1, h2.trans h2'⟩
  · intro _ j' hj' g' hg' hgs
    rcases Nat.lt_or_ge j' k with hjk | hjk
    · exact h.at_ rfl j' hjk g' hg' hgs
    · obtain rfl : j' = k := by omega
      rw [hf] at hg'; injection hg' with hg'; rw [← hg']; exact hat
  · obtain ⟨h3, h4⟩ := (key_iff (hl.al f (List.mem_of_getElem? hf)) (hl.al g (List.mem_of_getElem? hg))).1 h2
    exact (firstAt_iff hf hs).2 ⟨j, hj, g, hg, h1, h3, h4⟩
theorem Tex.new_ (hl : Lays fs) (h : Tex fs base s k D) {f : Frg} (hf : fs[k]? = some f) (hs : f.sect = s) (hh : s = 3 → Maps.has D (strLit f.key) = false) : firstAt fs k = k := by
  by_cases h3 : f.sect = 3
  · rcases Decidable.em (firstAt fs k = k) with e | e
    · exact e
    · obtain ⟨j, hj, g, hg, h1, h2, h4⟩ := (firstAt_iff hf h3).1 e
      have := (h.has_ f.key).2 ⟨j, hj, g, hg, by rw [h1, ← hs, h3], (key_iff (hl.al f (List.mem_of_getElem? hf)) (hl.al g (List.mem_of_getElem? hg))).2 ⟨h2, h4⟩⟩
      rw [hh (by rw [← hs, h3])] at this
      cases this
  · exact firstAt_other hf h3
theorem Tex.put (hl : Lays fs) (h : Tex fs base s k D) {f : Frg} (hf : fs[k]? = some f) (hs : f.sect = s) : Tex fs base s (k + 1) (D.put (strLit f.key) (.lit (.int .i64 (adrOf fs base k)))) := by
  refine ⟨h.isMap.put _ _, fun x => ?_, ?_⟩
  · by_cases hx : x = f.key
    · subst hx
      rw [has_put_same h.isMap (strLit_key _)]
      exact ⟨fun _ => ⟨k, by omega, f, hf, hs, rfl⟩, fun _ => rfl⟩
    · rw [has_put_other (fun e => hx (strLit_inj e)), h.has_]
      constructor
      · rintro ⟨j, hj, r⟩; exact ⟨j, by omega, r⟩
      · rintro ⟨j, hj, g, hg, h1, h2⟩
        rcases Nat.lt_or_ge j k with hjk | hjk
        · exact ⟨j, hjk, g, hg, h1, h2⟩
        · obtain rfl : j = k := by omega
          rw [hf] at hg; injection hg with hg; rw [hg] at hx; exact absurd h2.symm hx
  · intro h3 j hj g hg hgs
    by_cases hx : g.key = f.key
    · rw [hx, atKey_put_same h.isMap (strLit_key _), adr_alike (base := base) hl hf hg (hs.trans h3) hgs hx]
    · rw [atKey_put_other (fun e => hx (strLit_inj e))]
      rcases Nat.lt_or_ge j k with hjk | hjk
      · exact h.at_ h3 j hjk g hg hgs
      · obtain rfl : j = k := by omega
        rw [hf] at hg; injection hg with hg; rw [hg] at hx; exact absurd rfl hx
end

/-- The addresses that are told after k fragments of section s. -/
def frAt (fs : List Frg) (base : Nat) (s : Int) (k : Nat) : List Int :=
  (List.range fs.length).map fun i => match fs[i]? with
    | some f => if f.sect < s ∨ (f.sect = s ∧ i < k) then (adrOf fs base i : Int) else 0
    | none => 0
section
variable {fs : List Frg} {base k : Nat} {s : Int}
theorem frAt_len (fs : List Frg) (base : Nat) (s : Int) (k : Nat) : (frAt fs base s k).length = fs.length := by unfold frAt; simp
theorem frAt_get {i : Nat} {f : Frg} (hf : fs[i]? = some f) : (frAt fs base s k)[i]? = some (if f.sect < s ∨ (f.sect = s ∧ i < k) then (adrOf fs base i : Int) else 0) := by
  unfold frAt
  have := (List.getElem?_eq_some_iff.1 hf).1
  rw [List.getElem?_map, List.getElem?_range this, Option.map_some, hf]
theorem frAt_ext {l : List Int} (hl : l.length = fs.length) (h : ∀ i f, fs[i]? = some f → l[i]? = some (if f.sect < s ∨ (f.sect = s ∧ i < k) then (adrOf fs base i : Int) else 0)) : l = frAt fs base s k := by
  apply List.ext_getElem?
  intro i
  rcases Nat.lt_or_ge i fs.length with hi | hi
  · have hf := List.getElem?_eq_getElem hi
    rw [h i _ hf, frAt_get hf]
  · rw [List.getElem?_eq_none (by omega), List.getElem?_eq_none (by rw [frAt_len]; exact hi)]
theorem frAt_set {f : Frg} (hf : fs[k]? = some f) (hs : f.sect = s) : (frAt fs base s k).set k (adrOf fs base k : Int) = frAt fs base s (k + 1) := by
  apply frAt_ext (by rw [List.length_set, frAt_len])
  intro i g hg
  by_cases hik : k = i
  · subst hik
    rw [hf] at hg; injection hg with hg
    rw [List.getElem?_set_self (by rw [frAt_len]; exact (List.getElem?_eq_some_iff.1 hf).1), if_pos (.inr ⟨by rw [← hg]; exact hs, by omega⟩)]
  · rw [List.getElem?_set_ne hik, frAt_get hg]
    congr 1
    by_cases h1 : g.sect < s ∨ (g.sect = s ∧ i < k)
    · rw [if_pos h1, if_pos (h1.imp id fun h => ⟨h.1, by omega⟩)]
    · rw [if_neg h1, if_neg (fun h2 => h1 (h2.imp id fun h => ⟨h.1, by omega⟩))]
theorem frAt_skip {f : Frg} (hf : fs[k]? = some f) (hs : f.sect ≠ s) : frAt fs base s k = frAt fs base s (k + 1) := by
  apply frAt_ext (frAt_len _ _ _ _)
  intro i g hg
  rw [frAt_get hg]
  congr 1
  by_cases hik : k = i
  · subst hik
    rw [hf] at hg; injection hg with hg
    subst hg
    by_cases h1 : f.sect < s
    · rw [if_pos (.inl h1), if_pos (.inl h1)]
    · rw [if_neg (by omega), if_neg (by omega)]
  · by_cases h1 : g.sect < s ∨ (g.sect = s ∧ i < k)
    · rw [if_pos h1, if_pos (h1.imp id fun h => ⟨h.1, by omega⟩)]
    · rw [if_neg h1, if_neg (fun h2 => h1 (h2.imp id fun h => ⟨h.1, by omega⟩))]
theorem frAt_next : frAt fs base s fs.length = frAt fs base (s + 1) 0 := by
  apply frAt_ext (frAt_len _ _ _ _)
  intro i g hg
  have := (List.getElem?_eq_some_iff.1 hg).1
  rw [frAt_get hg]
  congr 1
  by_cases h1 : g.sect ≤ s
  · rw [if_pos (by omega), if_pos (by omega)]
  · rw [if_neg (by omega), if_neg (by omega)]
theorem frAt_start (hl : Lays fs) : List.replicate fs.length (0 : Int) = frAt fs base 1 0 := by
  apply frAt_ext (by simp)
  intro i g hg
  have := (hl.sect g (List.mem_of_getElem? hg)).1
  rw [if_neg (by omega), List.getElem?_replicate, if_pos (List.getElem?_eq_some_iff.1 hg).1]
theorem frAt_end (hl : Lays fs) : frAt fs base 6 0 = (List.range fs.length).map fun i => (adrOf fs base i : Int) := by
  symm
  apply frAt_ext (by simp)
  intro i g hg
  have := (hl.sect g (List.mem_of_getElem? hg)).2
  rw [if_pos (by omega), List.getElem?_map, List.getElem?_range (List.getElem?_eq_some_iff.1 hg).1]
  rfl
end

/-- Six numbers, of which those from 1 to s are told. -/
def sixAt (g : Nat → Nat) (s : Nat) : List Int := (List.range 6).map fun j => if 1 ≤ j ∧ j ≤ s then (g j : Int) else 0
theorem sixAt_len (g : Nat → Nat) (s : Nat) : (sixAt g s).length = 6 := by simp [sixAt]
theorem sixAt_zero (g : Nat → Nat) : sixAt g 0 = [0, 0, 0, 0, 0, 0] := rfl
theorem sixAt_set (g : Nat → Nat) {s : Nat} (hs : s < 5) : (sixAt g s).set (s + 1) (g (s + 1) : Int) = sixAt g (s + 1) := by
  match s, hs with
  | 0, _ => rfl
  | 1, _ => rfl
  | 2, _ => rfl
  | 3, _ => rfl
  | 4, _ => rfl
theorem sixAt_five (g : Nat → Nat) : sixAt g 5 = [0, (g 1 : Int), g 2, g 3, g 4, g 5] := rfl
/-- A layout's cells. -/
def lcells (v1 v2 v3 : Value) (fr to_ : List Int) : List Value := v1 :: v2 :: v3 :: (intsV fr ++ intsV to_)
theorem lcells_from {v1 v2 v3 : Value} {fr to_ : List Int} {j : Nat} (hj : j < fr.length) (n : Int) : (lcells v1 v2 v3 fr to_).set (3 + j) (.int .i64 n) = lcells v1 v2 v3 (fr.set j n) to_ := by
  unfold lcells
  rw [Nat.add_comm 3 j]
  simp only [List.set_cons_succ]
  rw [List.set_append_left _ _ (by simpa [intsV] using hj)]
  unfold intsV
  rw [List.map_set]; rfl
theorem lcells_to {v1 v2 v3 : Value} {fr to_ : List Int} (hf : fr.length = 6) (j : Nat) (n : Int) : (lcells v1 v2 v3 fr to_).set (9 + j) (.int .i64 n) = lcells v1 v2 v3 fr (to_.set j n) := by
  unfold lcells
  rw [show 9 + j = 6 + j + 3 by omega]
  simp only [List.set_cons_succ]
  have hl : (intsV fr).length = 6 := by simpa [intsV] using hf
  rw [List.set_append_right _ _ (by omega), hl, Nat.add_sub_cancel_left]
  unfold intsV
  rw [List.map_set]; rfl
theorem lcells_len {v1 v2 v3 : Value} {fr to_ : List Int} (hf : fr.length = 6) (ht : to_.length = 6) : (lcells v1 v2 v3 fr to_).length = 15 := by simp [lcells, intsV, hf, ht]
end Go.Proofs.Ytbhjdinjoonngaa
