/- obj.Check's answers, case by case. No program in sight. -/
import Derived.Test.YtbonpilpmjghbaaPartD
set_option linter.all false
namespace Go.Proofs.Ytbonpilpmjghbaa

theorem ckPart_1 {p : Prt} (h : 60 < p.frs.length ∨ 60 < p.dfs.length) : ckPart p = 2 := by unfold ckPart; rw [if_pos h]
theorem ckPart_2 {p : Prt} (h : ¬ (60 < p.frs.length ∨ 60 < p.dfs.length)) (h1 : firstBad (p.frs.map (ckFrag p.frs.length)) ≠ 0) : ckPart p = firstBad (p.frs.map (ckFrag p.frs.length)) := by
  unfold ckPart; rw [if_neg h, if_pos h1]
theorem ckPart_3 {p : Prt} (h : ¬ (60 < p.frs.length ∨ 60 < p.dfs.length)) (h1 : firstBad (p.frs.map (ckFrag p.frs.length)) = 0) : ckPart p = firstBad (p.dfs.map (ckDef p.frs)) := by
  unfold ckPart; rw [if_neg h, if_neg (by simp [h1])]
theorem ckDef_1 {frs : List Frg} {d : Df} (h : nameB d.name = false) : ckDef frs d = 1 := by unfold ckDef; rw [if_pos h]
theorem ckDef_2 {frs : List Frg} {d : Df} (h : nameB d.name = true) (hk : d.kind = 1 ∨ d.kind = 2) (hf : d.frag < 0 ∨ (frs.length : Int) ≤ d.frag) : ckDef frs d = 5 := by
  unfold ckDef; rw [if_neg (by simp [h]), if_pos hk, if_pos hf]
theorem ckDef_3 {frs : List Frg} {d : Df} {i : Nat} {f : Frg} (h : nameB d.name = true) (hk : d.kind = 1 ∨ d.kind = 2) (hi : d.frag = i) (hf : frs[i]? = some f) (hb : d.at_ < 0 ∨ f.long < d.at_ ∨ d.size ≠ 0 ∨ d.align ≠ 0) : ckDef frs d = 3 := by
  have hl : i < frs.length := (List.getElem?_eq_some_iff.1 hf).1
  unfold ckDef; rw [if_neg (by simp [h]), if_pos hk, if_neg (by omega), hi, Int.toNat_natCast, hf]; exact if_pos hb
theorem ckDef_4 {frs : List Frg} {d : Df} {i : Nat} {f : Frg} (h : nameB d.name = true) (hk : d.kind = 1 ∨ d.kind = 2) (hi : d.frag = i) (hf : frs[i]? = some f) (hb : ¬ (d.at_ < 0 ∨ f.long < d.at_ ∨ d.size ≠ 0 ∨ d.align ≠ 0)) : ckDef frs d = 0 := by
  have hl : i < frs.length := (List.getElem?_eq_some_iff.1 hf).1
  unfold ckDef; rw [if_neg (by simp [h]), if_pos hk, if_neg (by omega), hi, Int.toNat_natCast, hf]; exact if_neg hb
theorem ckDef_5 {frs : List Frg} {d : Df} (h : nameB d.name = true) (hk : d.kind = 3) (hb : d.frag ≠ 0 ∨ d.at_ ≠ 0 ∨ d.size < 1 ∨ 64 < d.size ∨ alignB d.align = false) : ckDef frs d = 3 := by
  unfold ckDef; rw [if_neg (by simp [h]), if_neg (by omega), if_pos hk, if_pos hb]
theorem ckDef_6 {frs : List Frg} {d : Df} (h : nameB d.name = true) (hk : d.kind = 3) (hb : ¬ (d.frag ≠ 0 ∨ d.at_ ≠ 0 ∨ d.size < 1 ∨ 64 < d.size ∨ alignB d.align = false)) : ckDef frs d = 0 := by
  unfold ckDef; rw [if_neg (by simp [h]), if_neg (by omega), if_pos hk, if_neg hb]
theorem ckDef_7 {frs : List Frg} {d : Df} (h : nameB d.name = true) (hk : ¬ (d.kind = 1 ∨ d.kind = 2 ∨ d.kind = 3)) : ckDef frs d = 4 := by
  unfold ckDef; rw [if_neg (by simp [h]), if_neg (by omega), if_neg (by omega)]
end Go.Proofs.Ytbonpilpmjghbaa
