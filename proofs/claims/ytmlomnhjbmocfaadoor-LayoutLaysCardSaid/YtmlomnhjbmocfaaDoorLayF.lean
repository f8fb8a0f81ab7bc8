/- layout.Lay: all of it; laid out farther on. No program in sight. -/
import Derived.Test.YtmlomnhjbmocfaaDoorB1
import Derived.Test.YtmlomnhjbmocfaaDoorSetsD
set_option linter.all false
namespace Go.Proofs.YtmlomnhjbmocfaaDoor

/-- All of it. -/
def layEnd (p : Prt) (base : Nat) : CSt := comAt p.dfs (secEnd p.frs base 5) (definedP p)
def layFr (p : Prt) (base : Nat) : List Nat := (List.range p.frs.length).map (adrOf p.frs base)
def layFrom (p : Prt) (base : Nat) : List Nat := (List.range 5).map fun s => secFrom p.frs base (s + 1)
def layTo (p : Prt) (base : Nat) : List Nat := ((List.range 4).map fun s => secEnd p.frs base (s + 1)) ++ [(layEnd p base).at_]
structure LayR where
  fr : List Nat
  ns : List ByteArray
  cs : List Nat
  frm : List Nat
  to_ : List Nat
def LayR.zero : LayR := ⟨[], [], [], [0, 0, 0, 0, 0], [0, 0, 0, 0, 0]⟩
def layE (p : Prt) (base : Int) : Int :=
  if ckPart p ≠ 0 then ckPart p else if base < 0 ∨ 65536 ≤ base then 3 else if 65536 < (layEnd p base.toNat).at_ then 10 else 0
def layR (p : Prt) (base : Int) : LayR :=
  if layE p base = 0 then ⟨layFr p base.toNat, (layEnd p base.toNat).ns, (layEnd p base.toNat).cs, layFrom p base.toNat, layTo p base.toNat⟩ else .zero
theorem layE_zero {p : Prt} {base : Int} (h : layE p base = 0) : ckPart p = 0 ∧ 0 ≤ base ∧ base < 65536 ∧ (layEnd p base.toNat).at_ ≤ 65536 := by
  unfold layE at h
  split at h
  · rename_i h1; exact absurd h h1
  · split at h
    · cases h
    · split at h
      · cases h
      · omega
theorem layEnd_moved {p : Prt} (hc : ckPart p = 0) (base m : Nat) (hm : 16 ∣ m) : layEnd p (base + m) = ⟨(layEnd p base).at_ + m, (layEnd p base).ns, (layEnd p base).cs.map (· + m)⟩ := by
  unfold layEnd
  rw [secEnd_moved (lays_of hc) _ _ hm, comAt_moved (comOk_of hc) _ _ hm]
/-- LayoutMoved's law. -/
theorem lay_moved {p : Prt} {base : Int} {m : Nat} (hm : 16 ∣ m) (h : layE p base = 0) :
    (layE p (base + m) = 0 ∧ (layR p (base + m)).fr = (layR p base).fr.map (· + m) ∧ (layR p (base + m)).ns = (layR p base).ns ∧ (layR p (base + m)).cs = (layR p base).cs.map (· + m) ∧
      (layR p (base + m)).frm = (layR p base).frm.map (· + m) ∧ (layR p (base + m)).to_ = (layR p base).to_.map (· + m)) ∨ layE p (base + m) = 10 ∨ layE p (base + m) = 3 := by
  obtain ⟨hc, h0, h1, h2⟩ := layE_zero h
  have hl := lays_of hc
  by_cases h3 : base + m < 65536
  · by_cases h4 : 65536 < (layEnd p (base + m).toNat).at_
    · refine .inr (.inl ?_)
      unfold layE
      rw [if_neg (by simp [hc]), if_neg (by omega), if_pos h4]
    · refine .inl ?_
      have h5 : layE p (base + m) = 0 := by
        unfold layE
        rw [if_neg (by simp [hc]), if_neg (by omega), if_neg h4]
      have e : (base + m).toNat = base.toNat + m := by omega
      refine ⟨h5, ?_⟩
      unfold layR
      rw [if_pos h, if_pos h5, e, layEnd_moved hc _ _ hm]
      refine ⟨?_, rfl, rfl, ?_, ?_⟩
      · unfold layFr
        rw [List.map_map]
        apply List.map_congr_left
        intro k hk
        exact adrOf_moved hl _ _ hm (List.mem_range.1 hk)
      · unfold layFrom
        rw [List.map_map]
        apply List.map_congr_left
        intro k hk
        exact secFrom_moved hl _ _ hm _
      · show layTo p (base.toNat + m) = (layTo p base.toNat).map (· + m)
        unfold layTo
        rw [List.map_append, List.map_map, layEnd_moved hc _ _ hm]
        congr 1
        apply List.map_congr_left
        intro k hk
        exact secEnd_moved hl _ _ hm _
  · refine .inr (.inr ?_)
    unfold layE
    rw [if_neg (by simp [hc]), if_pos (by omega)]
end Go.Proofs.YtmlomnhjbmocfaaDoor
