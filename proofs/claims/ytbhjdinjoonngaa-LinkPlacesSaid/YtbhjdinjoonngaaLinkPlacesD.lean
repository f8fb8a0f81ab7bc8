/- LinkPlaces: what is asked of a fragment's places. No program in sight. -/
import Derived.Test.YtbhjdinjoonngaaLinkJ
import Derived.Test.YtbhjdinjoonngaaFillP
set_option linter.all false
namespace Go.Proofs.Ytbhjdinjoonngaa
open Go.RowKit

/-- Whether a byte is of a place among these. -/
def InRel (rs : List Rel) (q : Nat) : Prop := ∃ r ∈ rs, r.at_ ≤ (q : Int) ∧ (q : Int) < r.at_ + wideOf r.kind
/-- What is marked: what is of a place, and nothing else. -/
def Marked (rs : List Rel) (nb : Nat) (fs : List Bool) : Prop := fs.length = nb ∧ ∀ q, q < nb → (fs[q]? = some true ↔ InRel rs q)
theorem marked_nil (nb : Nat) : Marked [] nb (List.replicate nb false) := by
  refine ⟨by simp, fun q hq => ?_⟩
  simp [InRel, hq]
/-- .. some bytes of the next place too. -/
def MarkedTo (rs : List Rel) (r : Rel) (j : Nat) (nb : Nat) (fs : List Bool) : Prop := fs.length = nb ∧ ∀ q, q < nb → (fs[q]? = some true ↔ InRel rs q ∨ (r.at_ ≤ (q : Int) ∧ (q : Int) < r.at_ + j))
theorem MarkedTo.zero {rs : List Rel} {r : Rel} {nb : Nat} {fs : List Bool} (h : Marked rs nb fs) : MarkedTo rs r 0 nb fs :=
  ⟨h.1, fun q hq => (h.2 q hq).trans ⟨.inl, fun h => h.elim id fun h => by omega⟩⟩
theorem MarkedTo.next {rs : List Rel} {r : Rel} {j nb : Nat} {fs : List Bool} {a : Nat} (h : MarkedTo rs r j nb fs) (ha : r.at_ = a) (hn : a + j < nb) : MarkedTo rs r (j + 1) nb (fs.set (a + j) true) := by
  refine ⟨by rw [List.length_set]; exact h.1, fun q hq => ?_⟩
  by_cases hqe : a + j = q
  · subst hqe
    rw [List.getElem?_set_self (by rw [h.1]; exact hn)]
    exact ⟨fun _ => .inr (by omega), fun _ => rfl⟩
  · rw [List.getElem?_set_ne hqe, h.2 q hq]
    exact or_congr Iff.rfl (by omega)
theorem MarkedTo.all {rs : List Rel} {r : Rel} {j nb k : Nat} {fs : List Bool} (h : MarkedTo (rs.take k) r j nb fs) (hj : wideOf r.kind = j) (hk : rs[k]? = some r) : Marked (rs.take (k + 1)) nb fs := by
  refine ⟨h.1, fun q hq => (h.2 q hq).trans ?_⟩
  rw [List.take_add_one, hk]
  unfold InRel
  simp only [List.mem_append, Option.toList_some, List.mem_singleton]
  rw [← hj]
  constructor
  · rintro (⟨r', h1, h2⟩ | h2)
    · exact ⟨r', .inl h1, h2⟩
    · exact ⟨r, .inr rfl, h2⟩
  · rintro ⟨r', h1 | rfl, h2⟩
    · exact .inl ⟨r', h1, h2⟩
    · exact .inr h2
/-- A byte that is of no place. -/
theorem Marked.not {rs : List Rel} {nb q : Nat} {fs : List Bool} (h : Marked rs nb fs) (hq : q < nb) (hf : fs[q]? = some false) : ∀ r ∈ rs, (q : Int) < r.at_ ∨ r.at_ + wideOf r.kind ≤ q := by
  intro r hr
  by_cases h1 : (q : Int) < r.at_ ∨ r.at_ + wideOf r.kind ≤ q
  · exact h1
  · have := (h.2 q hq).2 ⟨r, hr, by omega⟩
    rw [hf] at this
    cases this
structure PlcBy (p : Prt) (n : Nat) (entry : ByteArray) (en : Int) (S : List Seg) : Prop where
  ok : ckImg en S = 0
  rng : ∀ i f, p.frs[i]? = some f → f.sect ≠ 5 → rangeRes en S ((adrOf p.frs n i : Nat) : Int) ((f.bs.length : Nat) : Int) = ((filledP p n i).1, 0)
  len : ∀ i f, p.frs[i]? = some f → (filledP p n i).1.length = f.bs.length
  rel : ∀ i f, p.frs[i]? = some f → ∀ r ∈ f.rs, (targetA p n r).2 = 0 ∧ (valueRes r.kind (adrOf p.frs n i + r.at_) (targetA p n r).1 r.add).2 = 0 ∧ getRes (filledP p n i).1 r.at_ r.kind = ((valueRes r.kind (adrOf p.frs n i + r.at_) (targetA p n r).1 r.add).1, 0)
  els : ∀ i f, p.frs[i]? = some f → ∀ q : Nat, (∀ r ∈ f.rs, (q : Int) < r.at_ ∨ r.at_ + wideOf r.kind ≤ q) → (filledP p n i).1[q]? = f.bs[q]?
  b0 : 0 ≤ en
  b1 : en ≤ 65536
theorem plcBy_of {p : Prt} {n : Nat} {entry : ByteArray} {en : Int} {s1 s2 s3 : Seg} (h : layE p n = 0) (hf : linkFl p n entry = []) (he : en = (whereA p n entry).1) (h1 : s1.er = (segP p n 1 1 [1]).seg) (h2 : s2.er = (segP p n 2 3 [2, 3]).seg) (h3 : s3.er = (segP p n 4 5 [4, 5]).seg) : PlcBy p n entry en [s1, s2, s3] := by
  obtain ⟨hc, _⟩ := layE_zero h
  have hwb := where_bounds h (entry_clean hc hf)
  rw [← he] at hwb
  have hok := (img3_of h h1 h2 h3).ok hwb.1 hwb.2
  refine ⟨hok, fun i f hi h5 => ?_, fun i f hi => filled_len hc hi, fun i f hi => (filled_clean hc hf hi).1, fun i f hi => (filled_clean hc hf hi).2, hwb.1, hwb.2⟩
  have hr := range_of h h1 h2 h3 hi h5 f.bs.length (Nat.le_refl _)
  have hl := filled_len hc (base := n) hi
  rw [List.take_of_length_le (by omega)] at hr
  have ha := adr_le h hi
  have hfl := (frag_fine hc (List.mem_of_getElem? hi)).len
  exact rangeRes_some hok (by omega) (by rw [Int.toNat_natCast]; exact hr)
end Go.Proofs.Ytbhjdinjoonngaa
