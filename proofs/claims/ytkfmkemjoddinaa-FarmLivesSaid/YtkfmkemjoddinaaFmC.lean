/- FmC: texts that belong together. -/
import Derived.Test.YtkfmkemjoddinaaBA
import Derived.Test.YtkfmkemjoddinaaFmA
import Derived.Test.YtkfmkemjoddinaaReadyD
set_option linter.all false
/- A farm that is one stays one, whatever happens. No program in sight. -/
namespace Go.Proofs.Ytkfmkemjoddinaa

def Msg.Fits (nw n : Nat) (m : Msg) : Prop := (m.kind = 1 ∨ m.kind = 2) ∧ 0 ≤ m.worker ∧ m.worker < nw ∧ 0 ≤ m.n ∧ m.n < n ∧ ckPart m.p = 0
structure Frm.Fine (f : Frm) : Prop where
  pl : ckPlan f.pl f.ps.length = 0
  ld : f.dn.length = f.pl.length
  lh : f.hv.length = f.pl.length
  lg : f.gs.length = f.pl.length
  w1 : 1 ≤ f.wk.length
  w4 : f.wk.length ≤ 4
  n0 : 0 ≤ f.now
  n1 : f.now ≤ 65536
  ln : f.nt.length ≤ 20
  ps : ∀ p ∈ f.ps, ckPart p = 0
  hv : ∀ p ∈ f.hv, ckPart p = 0
  wk : ∀ k ∈ f.wk, -1 ≤ k ∧ k < f.pl.length
  gs : ∀ g ∈ f.gs, 0 ≤ g.worker ∧ g.worker < f.wk.length ∧ 0 ≤ g.until_ ∧ g.until_ ≤ 65541
  ms : ∀ m ∈ f.nt, m.Fits f.wk.length f.pl.length
theorem ckMsg_fits {nw n : Nat} {m : Msg} (h : m.Fits nw n) : ckMsg nw n m = 0 := by
  obtain ⟨h1, h2, h3, h4, h5, h6⟩ := h
  have : m.bad nw n = false := by
    unfold Msg.bad
    simp only [Bool.or_eq_false_iff, decide_eq_false_iff_not]
    refine ⟨?_, ?_, ?_, ?_, ?_, ?_⟩ <;> omega
  unfold ckMsg
  rw [this]
  exact h6
theorem fine_of {f : Frm} (h : ckFarm f = 0) : f.Fine := by
  obtain ⟨h1, h2, h3, h4, h5, h6, h7, h8⟩ := ckFarm_zero h
  have a := lens_zero h2
  have b := rng_zero h3
  exact ⟨h1, a.1, a.2.1, a.2.2, b.1, b.2.1, b.2.2.1, b.2.2.2, many_zero h4, fun p hp => h5 p (List.mem_append_left _ hp), fun p hp => h5 p (List.mem_append_right _ hp), who_zero h6, grs_zero h7, fun m hm => ckMsg_zero (h8 m hm)⟩
theorem Frm.Fine.ck {f : Frm} (h : f.Fine) : ckFarm f = 0 := by
  obtain ⟨a1, a2, a3, a4, a5, a6, a7, a8, a9, b1, b2, b3, b4, b5⟩ := h
  refine ckFarm_intro a1 (if_neg (by omega)) (if_neg (by omega)) (if_neg (by omega)) (fun p hp => ?_) (if_neg ?_) (if_neg ?_) (fun m hm => ckMsg_fits (b5 m hm))
  · rcases List.mem_append.1 hp with hp | hp
    · exact b1 p hp
    · exact b2 p hp
  · rw [Bool.not_eq_true, List.any_eq_false]
    intro k hk
    have := b3 k hk
    unfold badW
    simp only [Bool.or_eq_true, decide_eq_true_eq]
    omega
  · rw [Bool.not_eq_true, List.any_eq_false]
    intro g hg
    have := b4 g hg
    unfold Gr.bad
    simp only [Bool.or_eq_true, decide_eq_true_eq]
    omega
theorem ck_nil : ckPart .nil = 0 := (ok_iff _).2 ok_nil
theorem ck_joinP {a b : Prt} (h : (joinP a b).2 = 0) : ckPart (joinP a b).1 = 0 := by
  obtain ⟨ha, hb, hf, e⟩ := joinP_zero h
  rw [e]
  exact (ok_iff _).2 (ok_join ha hb hf)
theorem getD_mem {α : Type} {l : List α} {i : Nat} (d : α) (h : i < l.length) : l.getD i d ∈ l := by
  rw [List.getD_eq_getElem?_getD, List.getElem?_eq_getElem h]
  exact List.getElem_mem h
theorem getD_of {α : Type} {l : List α} {i : Nat} {x : α} (d : α) (h : l[i]? = some x) : l.getD i d = x := by
  rw [List.getD_eq_getElem?_getD, h]; rfl
theorem Frm.Fine.send {f : Frm} (h : f.Fine) {m : Msg} (hm : m.Fits f.wk.length f.pl.length) : (sendP f m).Fine := by
  unfold sendP
  split
  · rename_i hl
    refine ⟨h.pl, h.ld, h.lh, h.lg, h.w1, h.w4, h.n0, h.n1, ?_, h.ps, h.hv, h.wk, h.gs, fun m' hm' => ?_⟩
    · show (f.nt ++ [m]).length ≤ 20
      rw [List.length_append]; simp; omega
    · rcases List.mem_append.1 hm' with hm' | hm'
      · exact h.ms m' hm'
      · rw [List.mem_singleton.1 hm']; exact hm
  · exact h
theorem fine_give {f : Frm} (h : f.Fine) {w : Int} (h0 : 0 ≤ w) (h1 : w < f.wk.length) : (giveP f w).1.Fine := by
  unfold giveP
  rw [readyRes_ok h.pl h.ld]
  split
  · rename_i n hn
    obtain ⟨i, rfl, hi, _⟩ := readyUpto_mem.1 (List.mem_of_find?_eq_some hn)
    refine Frm.Fine.send (f := { f with gs := f.gs.set (i : Int).toNat ⟨w, f.now + 5⟩ }) ⟨h.pl, h.ld, h.lh, by show (f.gs.set _ _).length = _; rw [List.length_set]; exact h.lg, h.w1, h.w4, h.n0, h.n1, h.ln, h.ps, h.hv, h.wk, fun g hg => ?_, h.ms⟩ ⟨.inl rfl, h0, h1, by show (0 : Int) ≤ i; omega, by show (i : Int) < f.pl.length; omega, ck_nil⟩
    rcases List.mem_or_eq_of_mem_set hg with hg | rfl
    · exact h.gs g hg
    · have := h.n0
      have := h.n1
      exact ⟨h0, h1, by show 0 ≤ f.now + 5; omega, by show f.now + 5 ≤ 65541; omega⟩
  · exact h
theorem Frm.Fine.idle {f : Frm} (h : f.Fine) {w : Nat} {n : Int} (h0 : -1 ≤ n) (h1 : n < f.pl.length) : Frm.Fine { f with wk := f.wk.set w n } := by
  refine ⟨h.pl, h.ld, h.lh, h.lg, by show 1 ≤ (f.wk.set _ _).length; rw [List.length_set]; exact h.w1, by show (f.wk.set _ _).length ≤ 4; rw [List.length_set]; exact h.w4, h.n0, h.n1, h.ln, h.ps, h.hv, fun k hk => ?_, fun g hg => ?_, fun m hm => ?_⟩
  · rcases List.mem_or_eq_of_mem_set hk with hk | rfl
    · exact h.wk k hk
    · exact ⟨h0, h1⟩
  · show 0 ≤ g.worker ∧ g.worker < ((f.wk.set w n).length : Int) ∧ _
    rw [List.length_set]; exact h.gs g hg
  · show m.Fits (f.wk.set w n).length f.pl.length
    rw [List.length_set]; exact h.ms m hm
theorem plan_pos {l : List Nd} {n : Int} (h : ckPlan l n = 0) : 0 < l.length := by have := (ckPlan_zero h).2.2.2.1; omega
theorem fine_finish {f : Frm} (h : f.Fine) {w : Int} (h0 : 0 ≤ w) (h1 : w < f.wk.length) : (finishP f w).1.Fine := by
  have hp := plan_pos h.pl
  unfold finishP
  dsimp only
  split
  · exact h
  · rename_i hn
    have hk := h.wk _ (getD_mem 0 (show w.toNat < f.wk.length by omega))
    obtain ⟨n, hnn⟩ : ∃ n : Nat, f.wk.getD w.toNat 0 = n := ⟨(f.wk.getD w.toNat 0).toNat, by omega⟩
    rw [hnn] at hn hk ⊢
    have hi := h.idle (w := w.toNat) (n := -1) (by omega) (by omega)
    obtain ⟨x, hx⟩ : ∃ x, f.pl[n]? = some x := ⟨_, List.getElem?_eq_getElem (by omega)⟩
    rw [show (n : Int).toNat = n by omega, getD_of _ hx]
    have hb := (ckPlan_zero h.pl).2.2.2.2.1 n x hx
    split
    · rename_i hl
      have : x.leaf < f.ps.length := by
        unfold Nd.bad at hb
        rw [if_pos hl] at hb
        omega
      exact hi.send ⟨.inr rfl, h0, by show w < ((f.wk.set _ _).length : Int); rw [List.length_set]; exact h1, by show (0 : Int) ≤ n; omega, by show (n : Int) < f.pl.length; omega, h.ps _ (getD_mem _ (by omega))⟩
    · split
      · exact hi
      · split
        · rename_i hj
          exact hi.send ⟨.inr rfl, h0, by show w < ((f.wk.set _ _).length : Int); rw [List.length_set]; exact h1, by show (0 : Int) ≤ n; omega, by show (n : Int) < f.pl.length; omega, ck_joinP hj⟩
        · exact hi
theorem Frm.Fine.lose {f : Frm} (h : f.Fine) (k : Nat) : Frm.Fine { f with nt := f.nt.eraseIdx k } :=
  ⟨h.pl, h.ld, h.lh, h.lg, h.w1, h.w4, h.n0, h.n1, Nat.le_trans (List.length_eraseIdx_le ..) h.ln, h.ps, h.hv, h.wk, h.gs, fun m hm => h.ms m (List.mem_of_mem_eraseIdx hm)⟩
theorem Frm.Fine.came {f : Frm} (h : f.Fine) {n : Nat} {p : Prt} (hp : ckPart p = 0) : Frm.Fine { f with dn := f.dn.set n true, hv := f.hv.set n p, gs := f.gs.set n .none_ } := by
  refine ⟨h.pl, by show (f.dn.set _ _).length = _; rw [List.length_set]; exact h.ld, by show (f.hv.set _ _).length = _; rw [List.length_set]; exact h.lh, by show (f.gs.set _ _).length = _; rw [List.length_set]; exact h.lg, h.w1, h.w4, h.n0, h.n1, h.ln, h.ps, fun q hq => ?_, h.wk, fun g hg => ?_, h.ms⟩
  · rcases List.mem_or_eq_of_mem_set hq with hq | rfl
    · exact h.hv q hq
    · exact hp
  · rcases List.mem_or_eq_of_mem_set hg with hg | rfl
    · exact h.gs g hg
    · have := h.w1
      exact ⟨Int.le_refl _, by show (0 : Int) < f.wk.length; omega, Int.le_refl _, by show (0 : Int) ≤ 65541; omega⟩
theorem fine_arrive {f : Frm} (h : f.Fine) {k : Nat} (hk : k < f.nt.length) : (arriveP f k).Fine := by
  have hm := h.ms _ (getD_mem .none_ hk)
  have hg := h.lose k
  unfold arriveP
  dsimp only
  split
  · split
    · exact hg.idle (by have := hm.2.2.2.1; omega) hm.2.2.2.2.1
    · exact hg
  · split
    · split
      · exact hg.came hm.2.2.2.2.2
      · exact hg
    · exact hg
theorem fine_step {f : Frm} (h : f.Fine) (x : Hap) : (stepP f x).1.Fine := by
  have hp := plan_pos h.pl
  unfold stepP
  by_cases hoff : x.off f = true
  · rw [if_pos hoff]; exact h
  rw [if_neg hoff]
  unfold Hap.off at hoff
  by_cases k1 : x.kind = 1
  · rw [if_pos k1]
    rw [if_pos (.inl k1)] at hoff
    simp only [Bool.or_eq_true, decide_eq_true_eq] at hoff
    exact fine_give h (by omega) (by omega)
  rw [if_neg k1]
  by_cases k2 : x.kind = 2
  · rw [if_pos k2]
    rw [if_pos (.inr (.inl k2))] at hoff
    simp only [Bool.or_eq_true, decide_eq_true_eq] at hoff
    exact fine_finish h (by omega) (by omega)
  rw [if_neg k2]
  by_cases k3 : x.kind = 3
  · rw [if_pos k3]
    rw [if_neg (by omega), if_pos (.inl k3)] at hoff
    simp only [Bool.or_eq_true, decide_eq_true_eq] at hoff
    exact fine_arrive h (by omega)
  rw [if_neg k3]
  by_cases k4 : x.kind = 4
  · rw [if_pos k4]; exact h.lose _
  rw [if_neg k4]
  by_cases k5 : x.kind = 5
  · rw [if_pos k5]
    rw [if_neg (by omega), if_pos (.inr (.inr k5))] at hoff
    simp only [Bool.or_eq_true, decide_eq_true_eq] at hoff
    split
    · exact h
    · exact h.send (h.ms _ (getD_mem _ (by omega)))
  rw [if_neg k5]
  by_cases k6 : x.kind = 6
  · rw [if_pos k6]
    split
    · exact h
    · have := h.n0
      have := h.n1
      exact ⟨h.pl, h.ld, h.lh, h.lg, h.w1, h.w4, by show 0 ≤ f.now + 1; omega, by show f.now + 1 ≤ 65536; omega, h.ln, h.ps, h.hv, h.wk, h.gs, h.ms⟩
  rw [if_neg k6]
  by_cases k7 : x.kind = 7
  · rw [if_pos k7]; exact h.idle (by omega) (by omega)
  rw [if_neg k7]
  by_cases k8 : x.kind = 8
  · rw [if_pos k8]
    refine ⟨h.pl, h.ld, h.lh, by show (f.gs.map _).length = _; rw [List.length_map]; exact h.lg, h.w1, h.w4, h.n0, h.n1, h.ln, h.ps, h.hv, h.wk, fun g hg => ?_, h.ms⟩
    obtain ⟨_, _, rfl⟩ := List.mem_map.1 hg
    have := h.w1
    exact ⟨Int.le_refl _, by show (0 : Int) < f.wk.length; omega, Int.le_refl _, by show (0 : Int) ≤ 65541; omega⟩
  · rw [if_neg k8]; exact h
end Go.Proofs.Ytkfmkemjoddinaa

/- What is done stays done; one node at most is done at once. No program in sight. -/
namespace Go.Proofs.Ytkfmkemjoddinaa

theorem step_parts {f : Frm} (h : f.Fine) (x : Hap) : ((stepP f x).1.dn = f.dn ∧ (stepP f x).1.hv = f.hv) ∨
    (x.kind = 3 ∧ ∃ (n k : Nat) (m : Msg), f.dn[n]? = some false ∧ f.nt[k]? = some m ∧ m.kind = 2 ∧ m.n = n ∧ (stepP f x).1.dn = f.dn.set n true ∧ (stepP f x).1.hv = f.hv.set n m.p) := by
  have hs : ∀ (g : Frm) (m : Msg), (sendP g m).dn = g.dn ∧ (sendP g m).hv = g.hv := fun g m => by
    unfold sendP; split <;> simp
  unfold stepP
  by_cases hoff : x.off f = true
  · rw [if_pos hoff]; exact .inl ⟨rfl, rfl⟩
  rw [if_neg hoff]
  by_cases k1 : x.kind = 1
  · rw [if_pos k1]
    unfold giveP
    split
    · exact .inl (hs _ _)
    · exact .inl ⟨rfl, rfl⟩
  rw [if_neg k1]
  by_cases k2 : x.kind = 2
  · rw [if_pos k2]
    unfold finishP
    dsimp only
    repeat' split
    all_goals first | exact .inl ⟨rfl, rfl⟩ | exact .inl (hs _ _)
  rw [if_neg k2]
  by_cases k3 : x.kind = 3
  · rw [if_pos k3]
    unfold Hap.off at hoff
    rw [if_neg (by omega), if_pos (.inl k3)] at hoff
    simp only [Bool.or_eq_true, decide_eq_true_eq] at hoff
    have hk : x.k.toNat < f.nt.length := by omega
    obtain ⟨m, hm⟩ : ∃ m, f.nt[x.k.toNat]? = some m := ⟨_, List.getElem?_eq_getElem hk⟩
    have hf := h.ms m (List.mem_of_getElem? hm)
    unfold arriveP
    dsimp only
    rw [getD_of _ hm]
    split
    · split <;> exact .inl ⟨rfl, rfl⟩
    · split
      · rename_i hk2
        split
        · rename_i hd
          obtain ⟨n, hn⟩ : ∃ n : Nat, m.n = n := ⟨m.n.toNat, by have := hf.2.2.2.1; omega⟩
          have hln : n < f.dn.length := by have := hf.2.2.2.2.1; rw [h.ld]; omega
          rw [hn, show (n : Int).toNat = n by omega] at hd ⊢
          refine .inr ⟨k3, n, _, m, ?_, hm, hk2, hn, rfl, rfl⟩
          rw [List.getElem?_eq_getElem hln]
          rw [List.getD_eq_getElem?_getD, List.getElem?_eq_getElem hln] at hd
          exact congrArg some hd
        · exact .inl ⟨rfl, rfl⟩
      · exact .inl ⟨rfl, rfl⟩
  rw [if_neg k3]
  split
  · exact .inl ⟨rfl, rfl⟩
  split
  · split
    · exact .inl ⟨rfl, rfl⟩
    · exact .inl (hs _ _)
  split
  · split <;> exact .inl ⟨rfl, rfl⟩
  split
  · exact .inl ⟨rfl, rfl⟩
  split <;> exact .inl ⟨rfl, rfl⟩
theorem step_now (f : Frm) (x : Hap) : f.now ≤ (stepP f x).1.now ∧ (stepP f x).1.now ≤ f.now + 1 := by
  have hs : ∀ (g : Frm) (m : Msg), (sendP g m).now = g.now := fun g m => by
    unfold sendP; split <;> rfl
  have e : ∀ y : Int, y = f.now → f.now ≤ y ∧ y ≤ f.now + 1 := fun y hy => by omega
  unfold stepP
  split
  · exact e _ rfl
  split
  · unfold giveP
    split
    · exact e _ (hs _ _)
    · exact e _ rfl
  split
  · unfold finishP
    dsimp only
    repeat' split
    all_goals first | exact e _ rfl | exact e _ (hs _ _)
  split
  · unfold arriveP
    dsimp only
    repeat' split
    all_goals exact e _ rfl
  split
  · exact e _ rfl
  split
  · split
    · exact e _ rfl
    · exact e _ (hs _ _)
  split
  · split
    · exact e _ rfl
    · show f.now ≤ f.now + 1 ∧ f.now + 1 ≤ f.now + 1
      omega
  split
  · exact e _ rfl
  split <;> exact e _ rfl
/-- How many are done that weren't. -/
def newly (d g : List Bool) (k : Nat) : Nat := ((d.zip g).take k).countP fun x => !x.1 && x.2
theorem newly_step {d g : List Bool} {k : Nat} {a b : Bool} (ha : d[k]? = some a) (hb : g[k]? = some b) : newly d g (k + 1) = newly d g k + (if (!a && b) = true then 1 else 0) := by
  unfold newly
  have hz : (d.zip g)[k]? = some (a, b) := List.getElem?_zip_eq_some.2 ⟨ha, hb⟩
  rw [List.take_add_one, hz, List.countP_append]
  simp [List.countP_cons]
theorem newly_same (d : List Bool) : newly d d d.length = 0 := by
  unfold newly
  rw [List.countP_eq_zero]
  intro x hx
  have hx := List.mem_of_mem_take hx
  have hz : ∀ (d : List Bool), x ∈ d.zip d → x.1 = x.2 := by
    intro d
    induction d with
    | nil => intro hx; simp at hx
    | cons a r ih =>
      intro hx
      rw [List.zip_cons_cons] at hx
      rcases List.mem_cons.1 hx with rfl | hx
      · rfl
      · exact ih hx
  have := hz d hx
  rcases x with ⟨a, b⟩
  simp only at this
  subst this
  cases a <;> simp
theorem newly_one {d : List Bool} : ∀ {n : Nat}, d[n]? = some false → (d.zip (d.set n true)).countP (fun x => !x.1 && x.2) = 1 := by
  induction d with
  | nil => intro n h; simp at h
  | cons a r ih =>
    intro n h
    cases n with
    | zero =>
      simp at h
      subst h
      have := newly_same r
      unfold newly at this
      rw [List.take_of_length_le (by simp)] at this
      rw [List.set_cons_zero, List.zip_cons_cons, List.countP_cons, this]
      rfl
    | succ n =>
      rw [List.set_cons_succ, List.zip_cons_cons, List.countP_cons, ih (by simpa using h)]
      cases a <;> rfl
theorem newly_set {d : List Bool} {n : Nat} (h : d[n]? = some false) : newly d (d.set n true) d.length = 1 := by
  unfold newly
  rw [List.take_of_length_le (by simp)]
  exact newly_one h
/-- What FarmRises asks of what is done. -/
theorem step_rises {f : Frm} (h : f.Fine) (x : Hap) : (∀ i : Nat, f.dn[i]? = some true → (stepP f x).1.dn[i]? = some true ∧ (stepP f x).1.hv[i]? = f.hv[i]?) ∧
    (newly f.dn (stepP f x).1.dn f.dn.length = 0 ∨ (newly f.dn (stepP f x).1.dn f.dn.length = 1 ∧ x.kind = 3)) := by
  rcases step_parts h x with ⟨h1, h2⟩ | ⟨h0, n, _, m, h1, _, _, _, h2, h3⟩
  · rw [h1, h2]
    exact ⟨fun i hi => ⟨hi, rfl⟩, .inl (newly_same _)⟩
  · rw [h2, h3]
    refine ⟨fun i hi => ?_, .inr ⟨newly_set h1, h0⟩⟩
    have hne : n ≠ i := fun e => by subst e; rw [h1] at hi; cases hi
    rw [List.getElem?_set_ne hne, List.getElem?_set_ne hne]
    exact ⟨hi, rfl⟩
end Go.Proofs.Ytkfmkemjoddinaa

/- What is done is what the plan says, whatever happens. No program in sight. -/
namespace Go.Proofs.Ytkfmkemjoddinaa

/-- What a node of a plan is, by what is done below it. -/
def Frm.Is (f : Frm) (x : Nd) (p : Prt) : Prop :=
  (0 ≤ x.leaf → p = f.ps.getD x.leaf.toNat .nil) ∧
  (¬ 0 ≤ x.leaf → f.dn.getD x.left.toNat false = true ∧ f.dn.getD x.right.toNat false = true ∧ joinP (f.hv.getD x.left.toNat .nil) (f.hv.getD x.right.toNat .nil) = (p, 0))
structure Frm.Honest (f : Frm) : Prop where
  dn : ∀ i x, f.pl[i]? = some x → f.dn.getD i false = true → f.Is x (f.hv.getD i .nil)
  ms : ∀ m ∈ f.nt, m.kind = 2 → ∀ x, f.pl[m.n.toNat]? = some x → f.Is x m.p
theorem Frm.Is.more {f g : Frm} {x : Nd} {p : Prt} (h : f.Is x p) (hp : g.ps = f.ps) (hd : ∀ i, f.dn.getD i false = true → g.dn.getD i false = true ∧ g.hv.getD i .nil = f.hv.getD i .nil) : g.Is x p := by
  refine ⟨fun h0 => by rw [hp]; exact h.1 h0, fun h0 => ?_⟩
  obtain ⟨h1, h2, h3⟩ := h.2 h0
  have a := hd _ h1
  have b := hd _ h2
  exact ⟨a.1, b.1, by rw [a.2, b.2]; exact h3⟩
theorem send_mem {f : Frm} {m m' : Msg} (h : m' ∈ (sendP f m).nt) : m' ∈ f.nt ∨ m' = m := by
  unfold sendP at h
  split at h
  · rcases List.mem_append.1 h with h | h
    · exact .inl h
    · exact .inr (List.mem_singleton.1 h)
  · exact .inl h
theorem step_msgs (f : Frm) (x : Hap) : ∀ m ∈ (stepP f x).1.nt, m ∈ f.nt ∨ (m.kind = 2 → ∀ y, f.pl[m.n.toNat]? = some y → f.Is y m.p) := by
  intro m
  unfold stepP
  split
  · exact .inl
  split
  · unfold giveP
    split
    · intro h
      rcases send_mem h with h | rfl
      · exact .inl h
      · exact .inr fun h => by simp at h
    · exact .inl
  split
  · unfold finishP
    dsimp only
    split
    · exact .inl
    · split
      · rename_i hl
        intro h
        rcases send_mem h with h | rfl
        · exact .inl h
        · refine .inr fun _ y hy => ?_
          simp only at hy
          rw [getD_of _ hy] at hl ⊢
          exact ⟨fun _ => rfl, fun hn => absurd hl hn⟩
      · rename_i hl
        split
        · exact .inl
        · rename_i hd
          split
          · rename_i hj
            intro h
            rcases send_mem h with h | rfl
            · exact .inl h
            · refine .inr fun _ y hy => ?_
              simp only at hy
              rw [getD_of _ hy] at hl hj hd ⊢
              simp only [not_or, Bool.not_eq_false] at hd
              exact ⟨fun hn => absurd hn hl, fun _ => ⟨hd.1, hd.2, Prod.ext rfl hj⟩⟩
          · exact .inl
  split
  · unfold arriveP
    dsimp only
    have e : m ∈ f.nt.eraseIdx x.k.toNat → m ∈ f.nt := List.mem_of_mem_eraseIdx
    repeat' split
    all_goals exact fun h => .inl (e h)
  split
  · exact fun h => .inl (List.mem_of_mem_eraseIdx h)
  split
  · split
    · exact .inl
    · rename_i hk _
      intro h
      rcases send_mem h with h | rfl
      · exact .inl h
      · by_cases hlt : x.k.toNat < f.nt.length
        · exact .inl (getD_mem _ hlt)
        · rw [List.getD_eq_getElem?_getD, List.getElem?_eq_none (by omega)]
          exact .inr fun h => by simp [Msg.none_] at h
  split
  · split <;> exact .inl
  split
  · exact .inl
  split <;> exact .inl
theorem step_pl (f : Frm) (x : Hap) : (stepP f x).1.ps = f.ps ∧ (stepP f x).1.pl = f.pl := by
  have hs : ∀ (g : Frm) (m : Msg), (sendP g m).ps = g.ps ∧ (sendP g m).pl = g.pl := fun g m => by
    unfold sendP; split <;> simp
  unfold stepP
  split
  · simp
  split
  · unfold giveP
    split
    · simp [hs]
    · simp
  split
  · unfold finishP
    dsimp only
    repeat' split
    all_goals simp [hs]
  split
  · unfold arriveP
    dsimp only
    repeat' split
    all_goals simp
  split
  · simp
  split
  · split <;> simp [hs]
  split
  · split <;> simp
  split
  · simp
  split <;> simp
theorem getD_set_self {α : Type} {l : List α} {n : Nat} {a d : α} (h : n < l.length) : (l.set n a).getD n d = a := by
  rw [List.getD_eq_getElem?_getD, List.getElem?_set_self h]; rfl
theorem getD_set_ne {α : Type} {l : List α} {n i : Nat} {a d : α} (h : n ≠ i) : (l.set n a).getD i d = l.getD i d := by
  rw [List.getD_eq_getElem?_getD, List.getElem?_set_ne h, ← List.getD_eq_getElem?_getD]
theorem honest_step {f : Frm} (h : f.Fine) (hh : f.Honest) (x : Hap) : (stepP f x).1.Honest := by
  obtain ⟨e1, e2⟩ := step_pl f x
  have hd : ∀ i, f.dn.getD i false = true → (stepP f x).1.dn.getD i false = true ∧ (stepP f x).1.hv.getD i .nil = f.hv.getD i .nil := by
    intro i hi
    rcases step_parts h x with ⟨h1, h2⟩ | ⟨_, n, _, m, h1, _, _, _, h2, h3⟩
    · rw [h1, h2]; exact ⟨hi, rfl⟩
    · have hne : n ≠ i := fun e => by subst e; rw [getD_of _ h1] at hi; cases hi
      rw [h2, h3, getD_set_ne hne, getD_set_ne hne]
      exact ⟨hi, rfl⟩
  refine ⟨fun i y hy hi => ?_, fun m hm hk y hy => ?_⟩
  · rw [e2] at hy
    rcases step_parts h x with ⟨h1, h2⟩ | ⟨_, n, k, m, h1, hm, hk, hn, h2, h3⟩
    · rw [h1] at hi
      rw [h2]
      exact (hh.dn i y hy hi).more e1 hd
    · by_cases hne : n = i
      · subst hne
        have hl : n < f.hv.length := by rw [h.lh, ← h.ld]; exact (List.getElem?_eq_some_iff.1 h1).1
        rw [h3, getD_set_self hl]
        refine (hh.ms m (List.mem_of_getElem? hm) hk y ?_).more e1 hd
        rw [hn]; exact hy
      · rw [h2, getD_set_ne hne] at hi
        rw [h3, getD_set_ne hne]
        exact (hh.dn i y hy hi).more e1 hd
  · rw [e2] at hy
    rcases step_msgs f x m hm with h1 | h1
    · exact (hh.ms m h1 hk y hy).more e1 hd
    · exact (h1 hk y hy).more e1 hd
theorem run_honest (l : List Hap) : ∀ {f : Frm}, f.Fine → f.Honest → (runFrom f l).1.Fine ∧ (runFrom f l).1.Honest ∧ (runFrom f l).1.ps = f.ps ∧ (runFrom f l).1.pl = f.pl := by
  induction l with
  | nil => exact fun h hh => ⟨h, hh, rfl, rfl⟩
  | cons x r ih =>
    intro f h hh
    obtain ⟨e1, e2⟩ := step_pl f x
    show (runFrom (if (stepP f x).2 = 0 then (stepP f x).1 else f) r).1.Fine ∧ (runFrom (if (stepP f x).2 = 0 then (stepP f x).1 else f) r).1.Honest ∧ (runFrom (if (stepP f x).2 = 0 then (stepP f x).1 else f) r).1.ps = f.ps ∧ (runFrom (if (stepP f x).2 = 0 then (stepP f x).1 else f) r).1.pl = f.pl
    split
    · obtain ⟨a, b, c, d⟩ := ih (fine_step h x) (honest_step h hh x)
      exact ⟨a, b, c.trans e1, d.trans e2⟩
    · exact ih h hh
theorem run_len (l : List Hap) : ∀ (f : Frm), (runFrom f l).2.length = l.length := by
  induction l with
  | nil => exact fun _ => rfl
  | cons x r ih => exact fun f => by show ((stepP f x).2 :: (runFrom _ r).2).length = _; rw [List.length_cons, ih]; rfl
/-- What is done at a tree's root is its parts joined. -/
theorem honest_tree {f : Frm} (hh : f.Honest) (hp : ∀ x ∈ f.ps, x.Ok) : ∀ (t : Tr) (fo : Nat) (pre post : List Nd), f.pl = pre ++ t.flat pre.length fo ++ post → fo + t.leaves ≤ f.ps.length →
    f.dn.getD (pre.length + t.size - 1) false = true → f.hv.getD (pre.length + t.size - 1) .nil = joinL ((f.ps.drop fo).take t.leaves)
  | .one, fo, pre, post, he, hf, hd => by
    simp only [Tr.leaves, Tr.size, Nat.add_sub_cancel] at hf hd ⊢
    have hx : f.pl[pre.length]? = some ⟨(fo : Int), 0, 0⟩ := by rw [he]; simp [Tr.flat]
    have hi := (hh.dn _ _ hx hd).1 (by show (0 : Int) ≤ fo; omega)
    have hlt : fo < f.ps.length := by omega
    have e1 : (f.ps.drop fo).take 1 = [f.ps[fo]] := by rw [List.drop_eq_getElem_cons hlt]; rfl
    rw [hi, e1, joinL_one (hp _ (List.getElem_mem hlt)).right]
    show f.ps.getD (fo : Int).toNat .nil = _
    rw [Int.toNat_natCast, List.getD_eq_getElem?_getD, List.getElem?_eq_getElem hlt]; rfl
  | .two u v, fo, pre, post, he, hf, hd => by
    have pu := u.size_pos
    have pv := v.size_pos
    have lu := u.flat_len pre.length fo
    have lv := v.flat_len (pre.length + u.size) ((fo : Int) + u.leaves)
    simp only [Tr.leaves, Tr.size] at hf hd ⊢
    have hflat : f.pl = pre ++ u.flat pre.length fo ++ v.flat (pre.length + u.size) ((fo : Int) + u.leaves) ++ ([⟨-1, ((pre.length + u.size : Nat) : Int) - 1, ((pre.length + u.size + v.size : Nat) : Int) - 1⟩] ++ post) := by
      rw [he]; simp only [Tr.flat, List.append_assoc]
    have hx : f.pl[pre.length + (u.size + v.size + 1) - 1]? = some ⟨-1, ((pre.length + u.size : Nat) : Int) - 1, ((pre.length + u.size + v.size : Nat) : Int) - 1⟩ := by
      rw [hflat, List.getElem?_append_right (by simp only [List.length_append, lu, lv]; omega)]
      simp only [List.length_append, lu, lv]
      rw [show pre.length + (u.size + v.size + 1) - 1 - (pre.length + u.size + v.size) = 0 by omega]
      rfl
    obtain ⟨h1, h2, h3⟩ := (hh.dn _ _ hx hd).2 (by show ¬ (0 : Int) ≤ -1; omega)
    simp only at h1 h2 h3
    rw [show (((pre.length + u.size : Nat) : Int) - 1).toNat = pre.length + u.size - 1 by omega] at h1 h3
    rw [show (((pre.length + u.size + v.size : Nat) : Int) - 1).toNat = pre.length + u.size + v.size - 1 by omega] at h2 h3
    have i1 := honest_tree hh hp u fo pre (v.flat (pre.length + u.size) ((fo : Int) + u.leaves) ++ ([⟨-1, ((pre.length + u.size : Nat) : Int) - 1, ((pre.length + u.size + v.size : Nat) : Int) - 1⟩] ++ post)) (by rw [hflat, List.append_assoc]) (by omega) h1
    have i2 := honest_tree hh hp v (fo + u.leaves) (pre ++ u.flat pre.length fo) ([⟨-1, ((pre.length + u.size : Nat) : Int) - 1, ((pre.length + u.size + v.size : Nat) : Int) - 1⟩] ++ post)
      (by rw [hflat, List.length_append, lu]; rfl) (by omega) (by rw [List.length_append, lu]; exact h2)
    rw [List.length_append, lu] at i2
    rw [i1, i2] at h3
    obtain ⟨_, _, _, e⟩ := joinP_zero (show (joinP _ _).2 = 0 by rw [h3])
    rw [e] at h3
    injection h3 with h3 _
    rw [← h3, List.take_add, List.drop_drop, joinL_append fun x hx => (hp x (List.mem_of_mem_drop (List.mem_of_mem_take hx))).right]
/-- What New makes. -/
def newF (parts : List Prt) (l : List Nd) (workers : Nat) : Frm :=
  ⟨parts, l, 0, List.replicate l.length false, List.replicate l.length .nil, List.replicate l.length .none_, List.replicate workers (-1), []⟩
noncomputable def newP (parts : List Prt) (l : List Nd) (workers : Int) : Frm × Int :=
  if ckPlan l parts.length ≠ 0 then (.nil, ckPlan l parts.length) else if workers < 1 ∨ 4 < workers then (.nil, 3)
  else if firstBad (parts.map ckPart) ≠ 0 then (.nil, firstBad (parts.map ckPart)) else (newF parts l workers.toNat, 0)
theorem newP_zero {parts : List Prt} {l : List Nd} {workers : Int} (h : (newP parts l workers).2 = 0) :
    ckPlan l parts.length = 0 ∧ 1 ≤ workers ∧ workers ≤ 4 ∧ (∀ x ∈ parts, x.Ok) ∧ (newP parts l workers).1 = newF parts l workers.toNat := by
  unfold newP at h ⊢
  by_cases h1 : ckPlan l parts.length ≠ 0
  · rw [if_pos h1] at h; exact absurd h h1
  rw [if_neg h1] at h ⊢
  by_cases h2 : workers < 1 ∨ 4 < workers
  · rw [if_pos h2] at h; exact absurd h (by decide)
  rw [if_neg h2] at h ⊢
  by_cases h3 : firstBad (parts.map ckPart) ≠ 0
  · rw [if_pos h3] at h; exact absurd h h3
  rw [if_neg h3]
  exact ⟨by simpa using h1, by omega, by omega, firstBad_parts.1 (by simpa using h3), rfl⟩
theorem new_fine {parts : List Prt} {l : List Nd} {n : Nat} (hp : ckPlan l parts.length = 0) (h1 : 1 ≤ n) (h4 : n ≤ 4) (hx : ∀ x ∈ parts, x.Ok) : (newF parts l n).Fine := by
  have hl := plan_pos hp
  refine ⟨hp, by simp [newF], by simp [newF], by simp [newF], by simp [newF]; omega, by simp [newF]; omega, Int.le_refl _, by simp [newF], by simp [newF], fun p hp => (ok_iff p).2 (hx p hp), fun p hp => ?_, fun k hk => ?_, fun g hg => ?_, fun m hm => absurd hm (by simp [newF])⟩
  · rw [List.eq_of_mem_replicate hp]; exact ck_nil
  · rw [List.eq_of_mem_replicate hk]
    show (-1 : Int) ≤ -1 ∧ (-1 : Int) < l.length
    omega
  · rw [List.eq_of_mem_replicate hg]
    show (0 : Int) ≤ 0 ∧ (0 : Int) < ((List.replicate n (-1 : Int)).length : Int) ∧ (0 : Int) ≤ 0 ∧ (0 : Int) ≤ 65541
    rw [List.length_replicate]
    omega
theorem new_honest (parts : List Prt) (l : List Nd) (n : Nat) : (newF parts l n).Honest := by
  refine ⟨fun i x _ h => ?_, fun m hm => absurd hm (by simp [newF])⟩
  have : (List.replicate l.length false).getD i false = true := h
  rw [List.getD_eq_getElem?_getD, List.getElem?_replicate] at this
  split at this <;> cases this
/-- FarmHonest's end. -/
theorem honest_end {f : Frm} (h : f.Fine) (hh : f.Honest) {t : Tr} (ht : t.leaves = f.ps.length) (hl : f.pl = t.flat 0 0) (hd : f.dn.getD (f.pl.length - 1) false = true) :
    f.hv.getD (f.pl.length - 1) .nil = joinL f.ps ∧ allP f.ps = (joinL f.ps, 0) := by
  have hp : ∀ x ∈ f.ps, x.Ok := fun x hx => (ok_iff x).1 (h.ps x hx)
  have h12 := (ckPlan_zero h.pl).2.1
  have hs : f.pl.length = t.size := by rw [hl, t.flat_len]
  have e := honest_tree hh hp t 0 [] [] (by rw [hl]; simp) (by omega) (by rw [hs] at hd; simpa using hd)
  have e0 : f.hv.getD (f.pl.length - 1) .nil = joinL f.ps := by
    rw [hs]
    have : (f.ps.drop 0).take t.leaves = f.ps := by rw [ht]; simp
    rw [this] at e
    simpa using e
  have hm : (f.hv.getD (f.pl.length - 1) .nil) ∈ f.hv := getD_mem _ (by rw [h.lh]; have := plan_pos h.pl; omega)
  have hk := (ok_iff _).1 (h.hv _ hm)
  rw [e0] at hk
  refine ⟨e0, ?_⟩
  rcases all_right (by omega) hp with ⟨h5, _⟩ | ⟨_, h6⟩
  · exact h5
  · exact absurd ⟨hk.n1, hk.n2⟩ h6
end Go.Proofs.Ytkfmkemjoddinaa

/- One worker who is given what is ready and finishes it comes to the outcome. No program in sight. -/
namespace Go.Proofs.Ytkfmkemjoddinaa

/-- The values of a plan's nodes, where all can be joined. -/
def Vals (ps : List Prt) (pl : List Nd) (vs : List Prt) : Prop :=
  ∀ i x, pl[i]? = some x → (0 ≤ x.leaf → vs.getD i .nil = ps.getD x.leaf.toNat .nil) ∧
    (¬ 0 ≤ x.leaf → (joinP (vs.getD x.left.toNat .nil) (vs.getD x.right.toNat .nil)) = (vs.getD i .nil, 0))
theorem vals_up {ps : List Prt} : ∀ (l : List Nd) (out vs : List Prt), evalUp ps out l = (vs, 0) → (∀ (i : Nat) x, l[i]? = some x → ¬ 0 ≤ x.leaf → x.left.toNat < out.length + i ∧ x.right.toNat < out.length + i) →
    (∃ r, vs = out ++ r) ∧ ∀ (i : Nat) x, l[i]? = some x → (0 ≤ x.leaf → vs.getD (out.length + i) .nil = ps.getD x.leaf.toNat .nil) ∧
      (¬ 0 ≤ x.leaf → (joinP (vs.getD x.left.toNat .nil) (vs.getD x.right.toNat .nil)) = (vs.getD (out.length + i) .nil, 0))
  | [], out, vs, h, _ => by
    rw [evalUp] at h
    injection h with h _
    exact ⟨⟨[], by rw [h, List.append_nil]⟩, fun i x hx => by simp at hx⟩
  | x :: r, out, vs, h, hb => by
    have step : ∀ v : Prt, evalUp ps (out ++ [v]) r = (vs, 0) → (∃ q, vs = out ++ v :: q) ∧ ∀ (i : Nat) y, r[i]? = some y → (0 ≤ y.leaf → vs.getD (out.length + (i + 1)) .nil = ps.getD y.leaf.toNat .nil) ∧
        (¬ 0 ≤ y.leaf → (joinP (vs.getD y.left.toNat .nil) (vs.getD y.right.toNat .nil)) = (vs.getD (out.length + (i + 1)) .nil, 0)) := fun v hv => by
      obtain ⟨⟨q, hq⟩, h2⟩ := vals_up r (out ++ [v]) vs hv (fun i y hy h0 => by
        have := hb (i + 1) y (by simpa using hy) h0
        simp only [List.length_append, List.length_singleton]
        omega)
      refine ⟨⟨q, by rw [hq]; simp⟩, fun i y hy => ?_⟩
      have := h2 i y hy
      simp only [List.length_append, List.length_singleton] at this
      rw [show out.length + (i + 1) = out.length + 1 + i by omega]
      exact this
    by_cases h0 : 0 ≤ x.leaf
    · rw [evalUp_leaf h0] at h
      obtain ⟨⟨q, hq⟩, h2⟩ := step _ h
      refine ⟨⟨_, hq⟩, fun i y hy => ?_⟩
      cases i with
      | zero =>
        simp at hy
        subst hy
        refine ⟨fun _ => ?_, fun hn => absurd h0 hn⟩
        rw [hq, Nat.add_zero, getD_right _ _ _ _ (Nat.le_refl _), Nat.sub_self]; rfl
      | succ i => exact h2 i y (by simpa using hy)
    · by_cases hj : (joinP (out.getD x.left.toNat .nil) (out.getD x.right.toNat .nil)).2 = 0
      · rw [evalUp_ok h0 hj] at h
        obtain ⟨⟨q, hq⟩, h2⟩ := step _ h
        refine ⟨⟨_, hq⟩, fun i y hy => ?_⟩
        cases i with
        | zero =>
          simp at hy
          subst hy
          have hlr := hb 0 x rfl h0
          refine ⟨fun hn => absurd hn h0, fun _ => ?_⟩
          rw [hq, Nat.add_zero, getD_right _ _ _ _ (Nat.le_refl _), Nat.sub_self, getD_left _ _ _ _ (by omega), getD_left _ _ _ _ (by omega)]
          exact Prod.ext rfl hj
        | succ i => exact h2 i y (by simpa using hy)
      · rw [evalUp_bad h0 hj] at h
        injection h with _ h
        exact absurd h hj
theorem vals_of {ps : List Prt} {pl : List Nd} (h : (evalRes pl ps).2 = 0) : ∃ vs, Vals ps pl vs := by
  by_cases h1 : ckPlan pl ps.length = 0
  · by_cases h2 : firstBad (ps.map ckPart) = 0
    · rw [evalRes_go h1 h2] at h
      have hf := (ckPlan_zero h1).2.2.2.2.1
      obtain ⟨vs, e⟩ : ∃ vs, evalUp ps [] pl = (vs, 0) := ⟨_, Prod.ext rfl h⟩
      have := (vals_up pl [] vs e (fun i x hx h0 => by
        have hb := hf i x hx
        unfold Nd.bad at hb
        rw [if_neg h0] at hb
        simp only [List.length_nil, Nat.zero_add]
        omega)).2
      exact ⟨vs, fun i x hx => by simpa using this i x hx⟩
    · rw [evalRes_part h1 h2] at h; exact absurd h h2
  · rw [evalRes_plan h1] at h; exact absurd h h1
/-- What is done is its value. -/
theorem honest_vals {f : Frm} (h : f.Fine) (hh : f.Honest) {vs : List Prt} (hv : Vals f.ps f.pl vs) : ∀ i, i < f.pl.length → f.dn.getD i false = true → f.hv.getD i .nil = vs.getD i .nil := by
  intro i
  induction i using Nat.strongRecOn with
  | _ i ih =>
    intro hi hd
    have hx : f.pl[i]? = some f.pl[i] := List.getElem?_eq_getElem hi
    have hi1 := hh.dn i _ hx hd
    have hv1 := hv i _ hx
    by_cases h0 : 0 ≤ f.pl[i].leaf
    · rw [hi1.1 h0, hv1.1 h0]
    · have hb := (ckPlan_zero h.pl).2.2.2.2.1 i _ hx
      unfold Nd.bad at hb
      rw [if_neg h0] at hb
      obtain ⟨d1, d2, hj⟩ := hi1.2 h0
      have a1 := ih f.pl[i].left.toNat (by omega) (by omega) d1
      have a2 := ih f.pl[i].right.toNat (by omega) (by omega) d2
      rw [a1, a2, hv1.2 h0] at hj
      injection hj with hj _
      exact hj.symm
structure Frm.Calm (f : Frm) : Prop where
  fine : f.Fine
  honest : f.Honest
  nt : f.nt = []
  wk : ∀ k ∈ f.wk, k = -1
  gs : ∀ i : Nat, f.dn[i]? = some false → (f.gs.getD i .none_).until_ ≤ f.now
theorem set_idle {l : List Int} (h : ∀ k ∈ l, k = -1) (w : Nat) (n : Int) : (l.set w n).set w (-1) = l := by
  rw [List.set_set]
  refine List.ext_getElem? fun i => ?_
  by_cases hw : w = i
  · subst hw
    by_cases hl : w < l.length
    · rw [List.getElem?_set_self hl, List.getElem?_eq_getElem hl, h _ (List.getElem_mem hl)]
    · rw [List.getElem?_eq_none (by rw [List.length_set]; omega), List.getElem?_eq_none (by omega)]
  · rw [List.getElem?_set_ne hw]
def hapOf (k w : Int) : Hap := ⟨k, w, 0⟩
theorem off_who {f : Frm} {k w : Int} (hk : k = 1 ∨ k = 2 ∨ k = 7) (h0 : 0 ≤ w) (h1 : w < f.wk.length) : (hapOf k w).off f = false := by
  unfold Hap.off hapOf
  dsimp only
  rw [if_pos hk, decide_eq_false (by omega), decide_eq_false (by omega)]; rfl
theorem off_net {f : Frm} {w : Int} (h1 : 0 < f.nt.length) : (hapOf 3 w).off f = false := by
  unfold Hap.off hapOf
  dsimp only
  rw [if_neg (by omega), if_pos (.inl rfl), decide_eq_false (by omega), decide_eq_false (by omega)]; rfl
/-- One round: given, come, finished, come. -/
theorem round_ok {f : Frm} (h : f.Calm) (hv : (evalRes f.pl f.ps).2 = 0) {i : Nat} (hi : f.dn[i]? = some false) {w : Int} (h0 : 0 ≤ w) (h1 : w < f.wk.length) :
    ∃ f1 f2 f3 f4 : Frm, stepP f (hapOf 1 w) = (f1, 0) ∧ stepP f1 (hapOf 3 w) = (f2, 0) ∧ stepP f2 (hapOf 2 w) = (f3, 0) ∧ stepP f3 (hapOf 3 w) = (f4, 0) ∧
      f4.Calm ∧ f4.dn.count true = f.dn.count true + 1 ∧ f4.ps = f.ps ∧ f4.pl = f.pl ∧ f4.wk.length = f.wk.length := by
  obtain ⟨hF, hH, hnt, hwk, hgs⟩ := h
  have hfalls := (ckPlan_zero hF.pl).2.2.2.2.1
  obtain ⟨vs, hvs⟩ := vals_of hv
  obtain ⟨j, hj, hrj⟩ := ready_some hfalls hF.ld i hi
  have hsome : ((readyRes f.pl f.ps.length f.dn).1.find? (fun n => decide ((f.gs.getD n.toNat .none_).until_ ≤ f.now))).isSome = true := by
    rw [List.find?_isSome]
    refine ⟨j, ?_, ?_⟩
    · rw [readyRes_ok hF.pl hF.ld]
      exact readyUpto_mem.2 ⟨j, rfl, hj, hrj⟩
    · exact decide_eq_true (hgs j (ready_cases hfalls hF.ld hrj).1)
  obtain ⟨n', hn'⟩ := Option.isSome_iff_exists.1 hsome
  have hmem := List.mem_of_find?_eq_some hn'
  rw [readyRes_ok hF.pl hF.ld] at hmem
  obtain ⟨n, rfl, hn, hrn⟩ := readyUpto_mem.1 hmem
  obtain ⟨hdn, x, hx, hcs⟩ := ready_cases hfalls hF.ld hrn
  have hnd : n < f.dn.length := by rw [hF.ld]; exact hn
  have hwl : w.toNat < f.wk.length := by omega
  -- the message that brings the task, and the one that brings what it is
  obtain ⟨p, hp, hpn⟩ : ∃ p : Prt, f.Is x p ∧ ckPart p = 0 := by
    rcases hcs with hl | ⟨hl, a, d, ha, hd, han, hdn', da, dd⟩
    · refine ⟨f.ps.getD x.leaf.toNat .nil, ⟨fun _ => rfl, fun hn => absurd hl hn⟩, hF.ps _ (getD_mem _ ?_)⟩
      have hb := hfalls n x hx
      unfold Nd.bad at hb
      rw [if_pos hl] at hb
      omega
    · have e1 := honest_vals hF hH hvs a (by omega) (getD_of _ da)
      have e2 := honest_vals hF hH hvs d (by omega) (getD_of _ dd)
      have e3 := (hvs n x hx).2 hl
      rw [ha, hd, Int.toNat_natCast, Int.toNat_natCast, ← e1, ← e2] at e3
      refine ⟨vs.getD n .nil, ⟨fun hn => absurd hn hl, fun _ => ⟨?_, ?_, ?_⟩⟩, ?_⟩
      · rw [ha, Int.toNat_natCast]; exact getD_of _ da
      · rw [hd, Int.toNat_natCast]; exact getD_of _ dd
      · rw [ha, hd, Int.toNat_natCast, Int.toNat_natCast]; exact e3
      · have := ck_joinP (show (joinP _ _).2 = 0 by rw [e3])
        rw [e3] at this
        exact this
  let f1 : Frm := { f with gs := f.gs.set n ⟨w, f.now + 5⟩, nt := [⟨1, w, n, .nil⟩] }
  let f2 : Frm := { f1 with nt := [], wk := f.wk.set w.toNat n }
  let f3 : Frm := { f with gs := f.gs.set n ⟨w, f.now + 5⟩, nt := [⟨2, w, n, p⟩] }
  let f4 : Frm := { f with dn := f.dn.set n true, hv := f.hv.set n p, gs := f.gs.set n .none_ }
  have s1 : stepP f (hapOf 1 w) = (f1, 0) := by
    unfold stepP
    rw [off_who (.inl rfl) h0 h1]
    simp only [Bool.false_eq_true, if_false, hapOf, if_true]
    unfold giveP
    rw [hn']
    simp only [sendP, hnt, List.length_nil, Nat.zero_lt_succ, if_true, Int.toNat_natCast, List.nil_append]
    rfl
  have s2 : stepP f1 (hapOf 3 w) = (f2, 0) := by
    unfold stepP
    rw [off_net (show 0 < f1.nt.length by show 0 < 1; omega)]
    have e : f.wk.getD w.toNat 0 = -1 := hwk _ (getD_mem _ hwl)
    simp only [Bool.false_eq_true, if_false, hapOf, if_true, show ¬ ((3 : Int) = 1) by omega, show ¬ ((3 : Int) = 2) by omega]
    unfold arriveP
    simp only [f1, Int.toNat_zero, List.getD_cons_zero, if_true, e, show (-1 : Int) < 0 by omega, List.eraseIdx_cons_zero]
    rfl
  have s3 : stepP f2 (hapOf 2 w) = (f3, 0) := by
    unfold stepP
    rw [off_who (f := f2) (.inr (.inl rfl)) h0 (by show w < ((f.wk.set _ _).length : Int); rw [List.length_set]; exact h1)]
    simp only [Bool.false_eq_true, if_false, hapOf, if_true, show ¬ ((2 : Int) = 1) by omega]
    unfold finishP
    have e1 : f2.wk.getD w.toNat 0 = n := getD_set_self hwl
    have e2 : f2.wk.set w.toNat (-1) = f.wk := set_idle hwk _ _
    have e3 : f2.pl.getD n ⟨0, 0, 0⟩ = x := getD_of _ hx
    rw [e1]
    simp only [e2, Int.toNat_natCast, e3, show ¬ ((n : Int) < 0) by omega, if_false]
    rcases hcs with hl | ⟨hl, a, d, ha, hd, han, hdn', da, dd⟩
    · have e4 := hp.1 hl
      rw [if_pos hl]
      simp only [sendP, f2, f1, List.length_nil, Nat.zero_lt_succ, if_true, List.nil_append, ← e4]
      rfl
    · obtain ⟨q1, q2, q3⟩ := hp.2 hl
      rw [if_neg hl]
      have q1' : f2.dn.getD x.left.toNat false = true := q1
      have q2' : f2.dn.getD x.right.toNat false = true := q2
      have q3' : joinP (f2.hv.getD x.left.toNat .nil) (f2.hv.getD x.right.toNat .nil) = (p, 0) := q3
      rw [q1', q2', q3']
      simp only [Bool.true_eq_false, or_self, if_false, if_true]
      simp only [sendP, f2, f1, List.length_nil, Nat.zero_lt_succ, if_true, List.nil_append]
      rfl
  have s4 : stepP f3 (hapOf 3 w) = (f4, 0) := by
    unfold stepP
    rw [off_net (show 0 < f3.nt.length by show 0 < 1; omega)]
    have e : f.dn.getD n false = false := getD_of _ hdn
    simp only [Bool.false_eq_true, if_false, hapOf, if_true, show ¬ ((3 : Int) = 1) by omega, show ¬ ((3 : Int) = 2) by omega]
    unfold arriveP
    simp only [f3, Int.toNat_zero, List.getD_cons_zero, if_true, show ¬ ((2 : Int) = 1) by omega, if_false, Int.toNat_natCast, e, List.eraseIdx_cons_zero, List.set_set, f4]
    rw [hnt]
  have F4 : f4.Fine := by
    have a := fine_step hF (hapOf 1 w)
    rw [s1] at a
    have b := fine_step a (hapOf 3 w)
    rw [s2] at b
    have c := fine_step b (hapOf 2 w)
    rw [s3] at c
    have d := fine_step c (hapOf 3 w)
    rw [s4] at d
    exact d
  have H4 : f4.Honest := by
    have a := fine_step hF (hapOf 1 w)
    have a' := honest_step hF hH (hapOf 1 w)
    rw [s1] at a a'
    have b := fine_step a (hapOf 3 w)
    have b' := honest_step a a' (hapOf 3 w)
    rw [s2] at b b'
    have c := fine_step b (hapOf 2 w)
    have c' := honest_step b b' (hapOf 2 w)
    rw [s3] at c c'
    have d' := honest_step c c' (hapOf 3 w)
    rw [s4] at d'
    exact d'
  refine ⟨f1, f2, f3, f4, s1, s2, s3, s4, ⟨F4, H4, hnt, hwk, fun k hk => ?_⟩, count_done hdn rfl, rfl, rfl, rfl⟩
  have hk : (f.dn.set n true)[k]? = some false := hk
  by_cases hne : n = k
  · subst hne
    rw [List.getElem?_set_self hnd] at hk
    cases hk
  · rw [List.getElem?_set_ne hne] at hk
    show ((f.gs.set n .none_).getD k .none_).until_ ≤ f.now
    rw [getD_set_ne hne]
    exact hgs k hk
theorem new_calm {parts : List Prt} {l : List Nd} {n : Nat} (hp : ckPlan l parts.length = 0) (h1 : 1 ≤ n) (h4 : n ≤ 4) (hx : ∀ x ∈ parts, x.Ok) : (newF parts l n).Calm :=
  ⟨new_fine hp h1 h4 hx, new_honest _ _ _, rfl, fun k hk => List.eq_of_mem_replicate hk, fun i _ => by
    show ((List.replicate l.length Gr.none_).getD i .none_).until_ ≤ 0
    rw [List.getD_eq_getElem?_getD, List.getElem?_replicate]
    split <;> exact Int.le_refl _⟩
theorem new_count (parts : List Prt) (l : List Nd) (n : Nat) : (newF parts l n).dn.count true = 0 := by
  show (List.replicate l.length false).count true = 0
  simp [List.count_replicate]
theorem count_some {d : List Bool} (h : d.count true < d.length) : ∃ i : Nat, d[i]? = some false := by
  induction d with
  | nil => simp at h
  | cons a r ih =>
    cases a with
    | false => exact ⟨0, rfl⟩
    | true =>
      rw [List.count_cons_self, List.length_cons] at h
      obtain ⟨i, hi⟩ := ih (by omega)
      exact ⟨i + 1, by simpa using hi⟩
theorem count_all {d : List Bool} (h : d.count true = d.length) {i : Nat} (hi : i < d.length) : d.getD i false = true := by
  have := List.count_eq_length.1 h
  rw [List.getD_eq_getElem?_getD, List.getElem?_eq_getElem hi]
  exact (this _ (List.getElem_mem hi)).symm
end Go.Proofs.Ytkfmkemjoddinaa
