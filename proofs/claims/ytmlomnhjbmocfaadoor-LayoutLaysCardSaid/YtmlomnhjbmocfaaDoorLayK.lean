/- LayoutApart's plain law: fragments stand aligned, in order, and none meets another one. No program in sight. -/
import Derived.Test.YtmlomnhjbmocfaaDoorLayH
set_option linter.all false
namespace Go.Proofs.YtmlomnhjbmocfaaDoor

theorem secEnd_pos' (fs : List Frg) (base : Nat) {s : Nat} (hs : 1 ≤ s) : secEnd fs base s = posAt fs s (secFrom fs base s) fs.length := by
  obtain ⟨t, rfl⟩ : ∃ t, s = t + 1 := ⟨s - 1, by omega⟩
  show posAt fs ((t : Int) + 1) _ _ = _
  rw [show ((t : Int) + 1) = ((t + 1 : Nat) : Int) by omega]
  rfl
section
variable {fs : List Frg} {base : Nat}
/-- What holds of where a fragment stands, by the one that stands there first. -/
theorem plc_bounds (hl : Lays fs) (a : Nat) {k : Nat} {g : Frg} (hg : fs[k]? = some g) (hk : firstAt fs k = k) :
    a ≤ upN (posAt fs g.sect a k) g.al ∧ upN (posAt fs g.sect a k) g.al + g.ln ≤ posAt fs g.sect a (k + 1) := by
  have h1 := posAt_up hl g.sect a 0 k (Nat.zero_le _)
  have h2 := upN_le (posAt fs g.sect a k) g.al (hl.al0 (List.mem_of_getElem? hg)).1
  have h3 := posAt_step (a := a) hg rfl hk
  have e : posAt fs g.sect a 0 = a := rfl
  omega
theorem adr_in (hl : Lays fs) {k : Nat} {f : Frg} (hf : fs[k]? = some f) :
    adrOf fs base k % f.al = 0 ∧ secFrom fs base f.sect.toNat ≤ adrOf fs base k ∧ adrOf fs base k + f.ln ≤ secEnd fs base f.sect.toNat := by
  obtain ⟨g, hg, h1, h2, _, h3⟩ := first_get hf
  have hs := hl.sect f (List.mem_of_getElem? hf)
  have hal : g.al = f.al := by unfold Frg.al; rw [h2]
  rw [adrOf_eq _ hf, plcAt_eq _ hg, hal]
  obtain ⟨b1, b2⟩ := plc_bounds hl (secFrom fs base f.sect.toNat) hg (firstAt_twice k)
  rw [hal] at b1 b2
  have b3 := posAt_up hl g.sect (secFrom fs base f.sect.toNat) (firstAt fs k + 1) fs.length (by have := (List.getElem?_eq_some_iff.1 hg).1; omega)
  refine ⟨upN_mod _ _, b1, ?_⟩
  rw [secEnd_pos' fs base (show 1 ≤ f.sect.toNat by omega), show ((f.sect.toNat : Nat) : Int) = g.sect by rw [h1]; omega]
  omega
/-- Two of one section. -/
theorem adr_apart (hl : Lays fs) {i k : Nat} {f g : Frg} (hf : fs[i]? = some f) (hg : fs[k]? = some g) (hs : g.sect = f.sect) (hik : firstAt fs k < firstAt fs i) : adrOf fs base k + g.ln ≤ adrOf fs base i := by
  obtain ⟨f', hf', h1, h2, _, h3⟩ := first_get hf
  obtain ⟨g', hg', j1, j2, _, j3⟩ := first_get hg
  have b2 := (plc_bounds hl (secFrom fs base f.sect.toNat) hg' (firstAt_twice k)).2
  have b3 := posAt_up hl g'.sect (secFrom fs base f.sect.toNat) (firstAt fs k + 1) (firstAt fs i) hik
  rw [adrOf_eq _ hf, adrOf_eq _ hg, plcAt_eq _ hf', plcAt_eq _ hg', hs]
  have b4 := upN_le (posAt fs f'.sect (secFrom fs base f.sect.toNat) (firstAt fs i)) f'.al (hl.al0 (List.mem_of_getElem? hf')).1
  rw [show g'.sect = f'.sect by rw [j1, h1, hs]] at b2 b3 ⊢
  omega
theorem adr_same {i k : Nat} {f g : Frg} (hf : fs[i]? = some f) (hg : fs[k]? = some g) (hs : g.sect = f.sect) (hik : firstAt fs k = firstAt fs i) : adrOf fs base k = adrOf fs base i := by
  rw [adrOf_eq _ hf, adrOf_eq _ hg, hs]
  unfold plcAt
  rw [hik]
theorem adr_texts {i k : Nat} {f g : Frg} (hf : fs[i]? = some f) (hg : fs[k]? = some g) (hs : g.sect = f.sect) (h3 : f.sect = 3) (ha : g.align = f.align) (hb : g.bs = f.bs) : adrOf fs base k = adrOf fs base i :=
  adr_same hf hg hs (firstAt_alike hf hg h3 (hs.trans h3) ha hb)
/-- What is no text stands behind those ahead of it. -/
theorem adr_behind (hl : Lays fs) {i k : Nat} {f g : Frg} (hf : fs[i]? = some f) (hg : fs[k]? = some g) (hs : g.sect = f.sect) (h3 : f.sect ≠ 3) (hik : k < i) : adrOf fs base k + g.ln ≤ adrOf fs base i :=
  adr_apart hl hf hg hs (by rw [firstAt_other hf h3, firstAt_other hg (by rw [hs]; exact h3)]; exact hik)
theorem adr_text (hl : Lays fs) {i k : Nat} {f g : Frg} (hf : fs[i]? = some f) (hg : fs[k]? = some g) (hs : g.sect = f.sect) :
    adrOf fs base k + g.ln ≤ adrOf fs base i ∨ adrOf fs base i + f.ln ≤ adrOf fs base k ∨ adrOf fs base i = adrOf fs base k := by
  rcases Nat.lt_trichotomy (firstAt fs k) (firstAt fs i) with h | h | h
  · exact .inl (adr_apart hl hf hg hs h)
  · exact .inr (.inr (adr_same hf hg hs h).symm)
  · exact .inr (.inl (adr_apart hl hg hf hs.symm h))
end
/-- Sections: one behind the other. -/
theorem sec_row {p : Prt} {base s : Nat} (h : layE p base = 0) (h1 : 1 ≤ s) (h5 : s ≤ 5) :
    secFrom p.frs base s % 16 = 0 ∧ toN p base (s - 1) ≤ secFrom p.frs base s ∧ secFrom p.frs base s ≤ toN p base s ∧ toN p base s ≤ 65536 ∧ secEnd p.frs base s ≤ toN p base s := by
  obtain ⟨hc, _, _, h3⟩ := layE_zero h
  have e : (base : Int).toNat = base := by omega
  rw [e] at h3
  have hl := lays_of hc
  have hle := (com_at (comOk_of hc) (secEnd p.frs base 5) (definedP p)).le
  have e2 : (comAt p.dfs (secEnd p.frs base 5) (definedP p)).at_ = (layEnd p base).at_ := rfl
  have up : ∀ s, s ≤ 5 → secEnd p.frs base s ≤ toN p base s ∧ toN p base s ≤ 65536 := by
    have mono : ∀ d s, s + d = 5 → secEnd p.frs base s ≤ secEnd p.frs base 5 := by
      intro d
      induction d with
      | zero => intro s hs; rw [show s = 5 by omega]; exact Nat.le_refl _
      | succ d ih =>
        intro s hs
        have := ih (s + 1) (by omega)
        have := secEnd_next hl base s
        omega
    intro s hs
    unfold toN
    split
    · rename_i h5
      rw [h5]
      omega
    · have := mono (5 - s) s (by omega)
      omega
  have hn := secEnd_next hl base (s - 1)
  rw [show s - 1 + 1 = s by omega] at hn
  have h4 := up s h5
  have e3 : toN p base (s - 1) = secEnd p.frs base (s - 1) := if_neg (by omega)
  rw [e3]
  exact ⟨upN_mod _ _, hn.1, by omega, h4.2, h4.1⟩
/-- Common names: behind all fragments, one behind the other. -/
theorem com_row {p : Prt} {base i : Nat} (h : layE p base = 0) {n : ByteArray} {c : Nat} (hn : (layEnd p base).ns[i]? = some n) (hcs : (layEnd p base).cs[i]? = some c) :
    ∃ d, findL p.dfs n = (d, 0) ∧ d.kind = 3 ∧ 0 < d.align.toNat ∧ (d.align.toNat : Int) = d.align ∧ (d.size.toNat : Int) = d.size ∧ d.align.toNat ≤ 8 ∧ d.size.toNat ≤ 64 ∧ c % d.align.toNat = 0 ∧ secEnd p.frs base 5 ≤ c ∧ c + d.size.toNat ≤ (layEnd p base).at_ ∧
      ∀ j n' c', i < j → (layEnd p base).ns[j]? = some n' → (layEnd p base).cs[j]? = some c' → c + d.size.toNat ≤ c' ∧ keyOf n ≤ keyOf n' ∧ keyOf n ≠ keyOf n' := by
  obtain ⟨hc, _⟩ := layE_zero h
  obtain ⟨d, h1, h2, h3, h4, h5, h6⟩ := (com_at (comOk_of hc) (secEnd p.frs base 5) (definedP p)).each i n c hn hcs
  have hd : d.comOk := by have := comOk_find (comOk_of hc) n; rw [h1] at this; exact this
  obtain ⟨a1, a2, a3, a4, a5, a6, a7⟩ := com_al hd h2
  refine ⟨d, h1, h2, a1, a3, a7, a2, a5, h3, h4, h5, fun j n' c' hij hj hcj => ⟨h6 j n' c' hij hj hcj, ?_⟩⟩
  obtain ⟨i1, e1⟩ := List.getElem?_eq_some_iff.1 hn
  obtain ⟨j1, e2⟩ := List.getElem?_eq_some_iff.1 hj
  have := List.pairwise_iff_getElem.1 (lay_ns_rising p base) i j (by simpa using i1) (by simpa using j1) hij
  simpa [e1, e2] using this
end Go.Proofs.YtmlomnhjbmocfaaDoor
