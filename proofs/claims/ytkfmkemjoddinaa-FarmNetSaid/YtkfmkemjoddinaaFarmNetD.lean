/- What is lost, or comes twice, changes nothing else. No program in sight. -/
import Derived.Test.YtkfmkemjoddinaaFmC
set_option linter.all false
namespace Go.Proofs.Ytkfmkemjoddinaa

theorem do_step {f : Frm} (h : f.Fine) {x : Hap} {g : Frm} (hs : stepP f x = (g, 0)) : doP f x = (g, 0) := by
  unfold doP
  rw [if_neg (fun hn => hn h.ck), hs, if_neg (by simp)]
theorem net_off {f : Frm} {k : Int} {m : Nat} (hk : k = 3 ∨ k = 4 ∨ k = 5) (h1 : m < f.nt.length) : Hap.off f ⟨k, 0, m⟩ = false := by
  unfold Hap.off
  dsimp only
  rw [if_neg (by omega), if_pos hk, decide_eq_false (by omega), decide_eq_false (by omega)]; rfl
theorem step_lose {f : Frm} {m : Nat} (h1 : m < f.nt.length) : stepP f ⟨4, 0, m⟩ = ({ f with nt := f.nt.eraseIdx m }, 0) := by
  unfold stepP
  rw [net_off (by omega) h1]
  simp only [Bool.false_eq_true, if_false, show ¬ ((4 : Int) = 1) by omega, show ¬ ((4 : Int) = 2) by omega, show ¬ ((4 : Int) = 3) by omega, if_true, Int.toNat_natCast]
theorem step_double {f : Frm} {m : Nat} (h1 : m < f.nt.length) : stepP f ⟨5, 0, m⟩ = if f.nt.length = 20 then (f, 10) else (sendP f (f.nt.getD m .none_), 0) := by
  unfold stepP
  rw [net_off (by omega) h1]
  simp only [Bool.false_eq_true, if_false, show ¬ ((5 : Int) = 1) by omega, show ¬ ((5 : Int) = 2) by omega, show ¬ ((5 : Int) = 3) by omega, show ¬ ((5 : Int) = 4) by omega, if_true, Int.toNat_natCast]
theorem step_come {f : Frm} {m : Nat} (h1 : m < f.nt.length) : stepP f ⟨3, 0, m⟩ = (arriveP f m, 0) := by
  unfold stepP
  rw [net_off (by omega) h1]
  simp only [Bool.false_eq_true, if_false, show ¬ ((3 : Int) = 1) by omega, show ¬ ((3 : Int) = 2) by omega, if_true, Int.toNat_natCast]
theorem do_lose {f : Frm} (h : f.Fine) {m : Nat} (h1 : m < f.nt.length) : doP f ⟨4, 0, m⟩ = ({ f with nt := f.nt.eraseIdx m }, 0) := do_step h (step_lose h1)
theorem do_full {f : Frm} (h : f.Fine) {m : Nat} (h1 : m < f.nt.length) (h20 : f.nt.length = 20) : doP f ⟨5, 0, m⟩ = (.nil, 10) := by
  unfold doP
  rw [if_neg (fun hn => hn h.ck), step_double h1, if_pos h20, if_pos (by show (10 : Int) ≠ 0; decide)]
/-- A message twice. -/
def Frm.twice (f : Frm) (m : Nat) : Frm := { f with nt := f.nt ++ [f.nt.getD m .none_] }
theorem do_twice {f : Frm} (h : f.Fine) {m : Nat} (h1 : m < f.nt.length) (h20 : f.nt.length ≠ 20) : doP f ⟨5, 0, m⟩ = (f.twice m, 0) := by
  refine do_step h ?_
  rw [step_double h1, if_neg h20]
  unfold sendP
  rw [if_pos (by have := h.ln; omega)]
  rfl
theorem twice_fine {f : Frm} (h : f.Fine) {m : Nat} (h1 : m < f.nt.length) (h20 : f.nt.length ≠ 20) : (f.twice m).Fine := by
  have := fine_step h ⟨5, 0, m⟩
  rw [step_double h1, if_neg h20] at this
  unfold sendP at this
  rw [if_pos (by have := h.ln; omega)] at this
  exact this
theorem twice_back {f : Frm} (h : f.Fine) {m : Nat} (h1 : m < f.nt.length) (h20 : f.nt.length ≠ 20) : doP (f.twice m) ⟨4, 0, f.nt.length⟩ = (f, 0) := by
  rw [do_lose (twice_fine h h1 h20) (by unfold Frm.twice; simp)]
  unfold Frm.twice
  simp [List.eraseIdx_append_of_length_le]
theorem do_come {f : Frm} (h : f.Fine) {m : Nat} (h1 : m < f.nt.length) : doP f ⟨3, 0, m⟩ = (arriveP f m, 0) := do_step h (step_come h1)
theorem arrive_result (f : Frm) (k : Nat) (x : Msg) (hx : f.nt[k]? = some x) (h2 : x.kind = 2) :
    arriveP f k = if f.dn.getD x.n.toNat false = false then { f with nt := f.nt.eraseIdx k, dn := f.dn.set x.n.toNat true, hv := f.hv.set x.n.toNat x.p, gs := f.gs.set x.n.toNat .none_ } else { f with nt := f.nt.eraseIdx k } := by
  unfold arriveP
  rw [getD_of _ hx]
  dsimp only
  rw [if_neg (by rw [h2]; omega), if_pos h2]
theorem come_twice {f : Frm} (h : f.Fine) {m : Nat} (h1 : m < f.nt.length) (h20 : f.nt.length ≠ 20) (h2 : (f.nt.getD m .none_).kind = 2) :
    (arriveP (f.twice m) m).Fine ∧ f.nt.length - 1 < (arriveP (f.twice m) m).nt.length ∧ doP (arriveP (f.twice m) m) ⟨3, 0, ((f.nt.length - 1 : Nat) : Int)⟩ = (arriveP f m, 0) := by
  obtain ⟨x, hx⟩ : ∃ x, f.nt[m]? = some x := ⟨_, List.getElem?_eq_getElem h1⟩
  rw [getD_of _ hx] at h2
  have hF2 := twice_fine h h1 h20
  have hd0 : f.twice m = { f with nt := f.nt ++ [x] } := by unfold Frm.twice; rw [getD_of _ hx]
  have hxd : (f.twice m).nt[m]? = some x := by rw [hd0]; show (f.nt ++ [x])[m]? = some x; rw [List.getElem?_append_left h1]; exact hx
  have hmd : m < (f.twice m).nt.length := by rw [hd0]; show m < (f.nt ++ [x]).length; simp; omega
  have hn1 := h.ms x (List.mem_of_getElem? hx)
  have hnd : x.n.toNat < f.dn.length := by have := h.ld; have := hn1.2.2.2.1; have := hn1.2.2.2.2.1; omega
  have he1 : (f.nt ++ [x]).eraseIdx m = f.nt.eraseIdx m ++ [x] := List.eraseIdx_append_of_lt_length h1 _
  have hel : (f.nt.eraseIdx m).length = f.nt.length - 1 := List.length_eraseIdx_of_lt h1
  have hA : (arriveP (f.twice m) m).Fine := by
    have := fine_step hF2 ⟨3, 0, m⟩
    rw [step_come hmd] at this
    exact this
  have key : ∀ g : Frm, g.nt = f.nt.eraseIdx m ++ [x] → g.dn.getD x.n.toNat false = true → arriveP g (f.nt.length - 1) = { g with nt := f.nt.eraseIdx m } := fun g hg hgd => by
    have hgx : g.nt[f.nt.length - 1]? = some x := by rw [hg, List.getElem?_append_right (by omega), hel, Nat.sub_self]; rfl
    rw [arrive_result g _ x hgx h2, if_neg (by rw [hgd]; simp), hg]
    congr 1
    rw [List.eraseIdx_append_of_length_le (by omega), hel, Nat.sub_self]
    simp
  have hAd := arrive_result (f.twice m) m x hxd h2
  have hAf := arrive_result f m x hx h2
  have hlen : (arriveP (f.twice m) m).nt = f.nt.eraseIdx m ++ [x] := by
    rw [hAd]
    split <;> (rw [hd0]; exact he1)
  have hl2 : f.nt.length - 1 < (arriveP (f.twice m) m).nt.length := by rw [hlen, List.length_append, hel]; simp
  refine ⟨hA, hl2, ?_⟩
  rw [do_come hA hl2]
  congr 1
  have hdd : (f.twice m).dn = f.dn := by rw [hd0]
  rw [hdd] at hAd
  by_cases hdn : f.dn.getD x.n.toNat false = false
  · rw [if_pos hdn] at hAd hAf
    rw [key _ hlen (by rw [hAd]; exact getD_set_self hnd), hAd, hAf, hd0]
  · rw [if_neg hdn] at hAd hAf
    rw [key _ hlen (by rw [hAd, hd0]; simpa using hdn), hAd, hAf, hd0]
end Go.Proofs.Ytkfmkemjoddinaa
