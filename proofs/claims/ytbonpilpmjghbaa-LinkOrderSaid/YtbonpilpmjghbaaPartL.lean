/- Parts whose places lead somewhere: joining them is associative. No program in sight. -/
import Derived.Test.YtbonpilpmjghbaaPartJ
set_option linter.all false
namespace Go.Proofs.Ytbonpilpmjghbaa

def Rel.okIn (n : Nat) (r : Rel) : Prop := r.name.size = 0 → -1 ≤ r.frag ∧ r.frag < n
def Df.okIn (n : Nat) (d : Df) : Prop := (d.kind = 3 → d.frag = 0) ∧ (d.kind ≠ 3 → 0 ≤ d.frag ∧ d.frag < n)
structure Prt.Right (p : Prt) : Prop where
  rel : ∀ f ∈ p.frs, ∀ r ∈ f.rs, r.okIn p.frs.length
  df : ∀ d ∈ p.dfs, d.okIn p.frs.length

theorem getD_right {α : Type} (a b : List α) (j : Nat) (d : α) (h : a.length ≤ j) : (a ++ b).getD j d = b.getD (j - a.length) d := by
  rw [List.getD_eq_getElem?_getD, List.getD_eq_getElem?_getD, List.getElem?_append_right h]
theorem getD_left {α : Type} (a b : List α) (j : Nat) (d : α) (h : j < a.length) : (a ++ b).getD j d = a.getD j d := by
  rw [List.getD_eq_getElem?_getD, List.getD_eq_getElem?_getD, List.getElem?_append_left h]
/-- What stays of fragments. -/
def keepF (l : List ByteArray) (c : List Frg) : List Frg := c.filter fun f => !f.gone l
theorem keepF_append (l : List ByteArray) (c d : List Frg) : keepF l (c ++ d) = keepF l c ++ keepF l d := List.filter_append ..
theorem keepF_le (l : List ByteArray) (c : List Frg) : (keepF l c).length ≤ c.length := List.length_filter_le ..
theorem toFrom_len (l : List ByteArray) (n : Nat) (c : List Frg) : (toFrom l n c).length = c.length := by
  induction c generalizing n with
  | nil => rfl
  | cons f r ih => unfold toFrom; split <;> simp [ih]
theorem toFrom_append (l : List ByteArray) (n : Nat) (c d : List Frg) : toFrom l n (c ++ d) = toFrom l n c ++ toFrom l (n + (keepF l c).length) d := by
  induction c generalizing n with
  | nil => simp [toFrom, keepF]
  | cons f r ih =>
    rw [List.cons_append, toFrom, toFrom]
    by_cases h : f.gone l = true
    · rw [if_pos h, if_pos h, ih]; simp [keepF, h]
    · rw [if_neg h, if_neg h, ih]
      have : keepF l (f :: r) = f :: keepF l r := by simp [keepF, h]
      rw [this, List.length_cons, List.cons_append, show n + 1 + (keepF l r).length = n + ((keepF l r).length + 1) by omega]
theorem to_at (l : List ByteArray) (c1 : List Frg) (x : Frg) (c2 : List Frg) : (toOf l (c1 ++ x :: c2)).getD c1.length 0 = if x.gone l then -1 else ((keepF l c1).length : Int) := by
  unfold toOf
  rw [toFrom_append, getD_right _ _ _ _ (by rw [toFrom_len]; exact Nat.le_refl _), toFrom_len, Nat.sub_self, toFrom]
  split <;> simp
theorem to_left (l : List ByteArray) (b c : List Frg) {j : Nat} (h : j < b.length) : (toOf l (b ++ c)).getD j 0 = (toOf l b).getD j 0 := by
  unfold toOf
  rw [toFrom_append, getD_left _ _ _ _ (by rw [toFrom_len]; exact h)]
theorem split_at {c : List Frg} {j : Nat} (h : j < c.length) : ∃ c1 x c2, c = c1 ++ x :: c2 ∧ c1.length = j :=
  ⟨c.take j, c[j], c.drop (j + 1), by rw [List.getElem_cons_drop, List.take_append_drop], by rw [List.length_take]; omega⟩
theorem to_bound (l : List ByteArray) {c : List Frg} {j : Nat} (h : j < c.length) : -1 ≤ (toOf l c).getD j 0 ∧ (toOf l c).getD j 0 < ((keepF l c).length : Int) := by
  obtain ⟨c1, x, c2, rfl, rfl⟩ := split_at h
  rw [to_at, keepF_append]
  by_cases hx : x.gone l = true
  · rw [if_pos hx]; simp; omega
  · rw [if_neg hx]
    have : keepF l (x :: c2) = x :: keepF l c2 := by simp [keepF, hx]
    rw [this]; simp; omega
theorem to_all (l : List ByteArray) {c : List Frg} (hc : ∀ f ∈ c, f.gone l = false) {j : Nat} (h : j < c.length) : (toOf l c).getD j 0 = j := by
  obtain ⟨c1, x, c2, rfl, rfl⟩ := split_at h
  rw [to_at, hc x (by simp)]
  have : keepF l c1 = c1 := by
    unfold keepF
    rw [List.filter_eq_self]
    intro f hf
    rw [hc f (by simp [hf])]; rfl
  rw [this]; simp

theorem gone_mapR (l : List ByteArray) (g : Rel → Rel) (f : Frg) : (f.mapR g).gone l = f.gone l := rfl
theorem keepF_map (l : List ByteArray) (g : Rel → Rel) (c : List Frg) : keepF l (c.map (Frg.mapR g)) = (keepF l c).map (Frg.mapR g) := by
  unfold keepF
  rw [List.filter_map]; rfl
theorem keepF_keepF {l m u : List ByteArray} (hu : ∀ f : Frg, f.gone u = (f.gone l || f.gone m)) (c : List Frg) : keepF l (keepF m c) = keepF u c := by
  unfold keepF
  rw [List.filter_filter]
  congr 1
  funext f
  rw [hu]; simp

/-- Where what was kept, and joined behind b, goes then. -/
theorem to_two {l m u : List ByteArray} (hu : ∀ f : Frg, f.gone u = (f.gone l || f.gone m)) (b c : List Frg) (g : Rel → Rel) {j : Nat} (h : j < c.length) :
    ((toOf m c).getD j 0 = -1 ∧ (toOf u c).getD j 0 = -1) ∨ ∃ i : Nat, (toOf m c).getD j 0 = i ∧
      (((toOf l (b ++ (keepF m c).map (Frg.mapR g))).getD (b.length + i) 0 = -1 ∧ (toOf u c).getD j 0 = -1) ∨
        ∃ k : Nat, (toOf l (b ++ (keepF m c).map (Frg.mapR g))).getD (b.length + i) 0 = (keepF l b).length + k ∧ (toOf u c).getD j 0 = k) := by
  obtain ⟨c1, x, c2, rfl, rfl⟩ := split_at h
  rw [to_at, to_at, hu]
  by_cases hx : x.gone m = true
  · exact .inl (by rw [hx]; simp)
  · have hx' : x.gone m = false := by simpa using hx
    have e : b ++ (keepF m (c1 ++ x :: c2)).map (Frg.mapR g) = (b ++ (keepF m c1).map (Frg.mapR g)) ++ x.mapR g :: (keepF m c2).map (Frg.mapR g) := by
      have : keepF m (x :: c2) = x :: keepF m c2 := by simp [keepF, hx']
      rw [keepF_append, this]; simp
    have e2 : b.length + (keepF m c1).length = (b ++ (keepF m c1).map (Frg.mapR g)).length := by simp
    refine .inr ⟨(keepF m c1).length, by rw [hx']; simp, ?_⟩
    rw [e, e2, to_at, gone_mapR, keepF_append, keepF_map, keepF_keepF hu, hx']
    by_cases hl : x.gone l = true
    · exact .inl (by rw [hl]; simp)
    · have hl' : x.gone l = false := by simpa using hl
      exact .inr ⟨(keepF u c1).length, by rw [hl']; simp, by rw [hl']; simp⟩

theorem re_left (l : List ByteArray) (b c : List Frg) {r : Rel} (h : r.okIn b.length) : r.re (toOf l (b ++ c)) = r.re (toOf l b) := by
  unfold Rel.re
  split
  · rename_i h1
    rw [to_left l b c (by have := h h1.1; omega)]
  · rfl
theorem Rel.re_at {r : Rel} {to : List Int} {t : Int} (h : r.name.size = 0 ∧ 0 ≤ r.frag) (ht : to.getD r.frag.toNat 0 = t) : r.re to = { r with frag := t } := by
  unfold Rel.re; rw [if_pos h, ht]
theorem re_two {l m u : List ByteArray} (hu : ∀ f : Frg, f.gone u = (f.gone l || f.gone m)) (b c : List Frg) (g : Rel → Rel) {r : Rel} (h : r.okIn c.length) :
    ((r.re (toOf m c)).shift b.length).re (toOf l (b ++ (keepF m c).map (Frg.mapR g))) = (r.re (toOf u c)).shift (keepF l b).length := by
  by_cases h1 : r.name.size = 0 ∧ 0 ≤ r.frag
  · obtain ⟨h2, h3⟩ := h h1.1
    have hj : r.frag.toNat < c.length := by omega
    rcases to_two hu b c g hj with ⟨t1, t3⟩ | ⟨i, t1, hr⟩
    · rw [Rel.re_at h1 t1, Rel.re_at h1 t3]
      unfold Rel.shift Rel.re
      simp
    · rw [Rel.re_at h1 t1]
      have e3 : Rel.shift b.length { r with frag := (i : Int) } = { r with frag := (i : Int) + b.length } := if_pos ⟨h1.1, by show (0 : Int) ≤ i; omega⟩
      have e5 : ((i : Int) + b.length).toNat = b.length + i := by omega
      rw [e3]
      rcases hr with ⟨t2, t3⟩ | ⟨k, t2, t3⟩
      · rw [Rel.re_at (r := { r with frag := (i : Int) + b.length }) (t := -1) ⟨h1.1, by show (0 : Int) ≤ i + b.length; omega⟩ (by show List.getD _ ((i : Int) + b.length).toNat 0 = _; rw [e5]; exact t2), Rel.re_at h1 t3]
        unfold Rel.shift
        simp
      · rw [Rel.re_at (r := { r with frag := (i : Int) + b.length }) (t := (keepF l b).length + k) ⟨h1.1, by show (0 : Int) ≤ i + b.length; omega⟩ (by show List.getD _ ((i : Int) + b.length).toNat 0 = _; rw [e5]; exact t2), Rel.re_at h1 t3]
        unfold Rel.shift
        rw [if_pos ⟨h1.1, by show (0 : Int) ≤ k; omega⟩]
        simp only [Rel.mk.injEq, true_and, and_true]
        omega
  · have e1 : ∀ to, r.re to = r := fun to => if_neg h1
    have e2 : ∀ n, r.shift n = r := fun n => if_neg h1
    rw [e1, e1, e2, e1, e2]

theorem Df.re_at {d : Df} {to : List Int} {t : Int} (h : d.kind ≠ 3) (ht : to.getD d.frag.toNat 0 = t) : d.re to = { d with frag := t } := by
  unfold Df.re; rw [if_pos h, ht]
theorem Df.re_common {d : Df} (to : List Int) (h : d.kind = 3) : d.re to = d := if_neg (by simp [h])
theorem Df.shift_common {d : Df} (n : Nat) (h : d.kind = 3) : d.shift n = d := if_neg (by simp [h])
theorem df_left (l : List ByteArray) (b c : List Frg) {d : Df} (h : d.okIn b.length) : d.re (toOf l (b ++ c)) = d.re (toOf l b) := by
  unfold Df.re
  split
  · rename_i h1
    rw [to_left l b c (by have := h.2 h1; omega)]
  · rfl
/-- Definitions moved, and those kept that lead somewhere. -/
def reDfs (to : List Int) (l : List Df) : List Df := (l.map (Df.re to)).filter fun d => decide (0 ≤ d.frag)
theorem reDfs_append (to : List Int) (l m : List Df) : reDfs to (l ++ m) = reDfs to l ++ reDfs to m := by unfold reDfs; rw [List.map_append, List.filter_append]
theorem reDfs_cons_in {to : List Int} {d : Df} {l : List Df} (h : 0 ≤ (d.re to).frag) : reDfs to (d :: l) = d.re to :: reDfs to l := by simp [reDfs, h]
theorem reDfs_cons_out {to : List Int} {d : Df} {l : List Df} (h : (d.re to).frag < 0) : reDfs to (d :: l) = reDfs to l := by simp [reDfs, h]
theorem reDfs_left (l : List ByteArray) (b c : List Frg) {ds : List Df} (h : ∀ d ∈ ds, d.okIn b.length) : reDfs (toOf l (b ++ c)) ds = reDfs (toOf l b) ds := by
  unfold reDfs
  congr 1
  exact List.map_congr_left fun d hd => df_left l b c (h d hd)
theorem reDfs_two {l m u : List ByteArray} (hu : ∀ f : Frg, f.gone u = (f.gone l || f.gone m)) (b c : List Frg) (g : Rel → Rel) {ds : List Df} (h : ∀ d ∈ ds, d.okIn c.length) :
    reDfs (toOf l (b ++ (keepF m c).map (Frg.mapR g))) ((reDfs (toOf m c) ds).map (Df.shift b.length)) = (reDfs (toOf u c) ds).map (Df.shift (keepF l b).length) := by
  induction ds with
  | nil => rfl
  | cons d ds ih =>
    have ih := ih fun x hx => h x (by simp [hx])
    obtain ⟨h0, h1⟩ := h d (by simp)
    by_cases hk : d.kind = 3
    · have hf := h0 hk
      rw [reDfs_cons_in (d := d) (by rw [Df.re_common _ hk]; omega), reDfs_cons_in (d := d) (by rw [Df.re_common _ hk]; omega), Df.re_common _ hk, Df.re_common _ hk, List.map_cons, List.map_cons, Df.shift_common _ hk, Df.shift_common _ hk,
        reDfs_cons_in (d := d) (by rw [Df.re_common _ hk]; omega), Df.re_common _ hk, ih]
    · have hj : d.frag.toNat < c.length := by have := h1 hk; omega
      rcases to_two hu b c g hj with ⟨t1, t3⟩ | ⟨i, t1, hr⟩
      · rw [reDfs_cons_out (d := d) (by rw [Df.re_at hk t1]; show (-1 : Int) < 0; omega), reDfs_cons_out (d := d) (by rw [Df.re_at hk t3]; show (-1 : Int) < 0; omega), ih]
      · have e1 : (d.re (toOf m c)).shift b.length = { d with frag := (i : Int) + b.length } := by rw [Df.re_at hk t1]; exact if_pos hk
        have e5 : ((i : Int) + b.length).toNat = b.length + i := by omega
        rw [reDfs_cons_in (to := toOf m c) (d := d) (by rw [Df.re_at hk t1]; show (0 : Int) ≤ i; omega), List.map_cons, e1]
        rcases hr with ⟨t2, t3⟩ | ⟨k, t2, t3⟩
        · rw [reDfs_cons_out (d := { d with frag := (i : Int) + b.length }) (by rw [Df.re_at (d := { d with frag := (i : Int) + b.length }) (t := -1) hk (by show List.getD _ ((i : Int) + b.length).toNat 0 = _; rw [e5]; exact t2)]; show (-1 : Int) < 0; omega),
            reDfs_cons_out (to := toOf u c) (d := d) (by rw [Df.re_at hk t3]; show (-1 : Int) < 0; omega), ih]
        · have e2 := Df.re_at (d := { d with frag := (i : Int) + b.length }) (t := (keepF l b).length + k) hk (by show List.getD _ ((i : Int) + b.length).toNat 0 = _; rw [e5]; exact t2)
          rw [reDfs_cons_in (d := { d with frag := (i : Int) + b.length }) (by rw [e2]; show (0 : Int) ≤ (keepF l b).length + k; omega), e2, reDfs_cons_in (to := toOf u c) (d := d) (by rw [Df.re_at hk t3]; show (0 : Int) ≤ k; omega), List.map_cons, ih, Df.re_at hk t3]
          congr 1
          unfold Df.shift
          rw [if_pos (by exact hk)]
          simp only [Df.mk.injEq, true_and, and_true]
          omega

theorem mem_groupsFrom (g : ByteArray) (l : List ByteArray) (c : List Frg) : g ∈ groupsFrom l c ↔ g ∈ l ∨ (g.size ≠ 0 ∧ ∃ f ∈ c, f.group = g) := by
  induction c generalizing l with
  | nil => simp [groupsFrom]
  | cons f r ih =>
    rw [groupsFrom, ih]
    by_cases h : f.group.size = 0 ∨ f.group ∈ l
    · rw [if_pos h]
      constructor
      · rintro (h1 | ⟨h1, x, hx, e⟩)
        · exact .inl h1
        · exact .inr ⟨h1, x, by simp [hx], e⟩
      · rintro (h1 | ⟨h1, x, hx, e⟩)
        · exact .inl h1
        · rcases List.mem_cons.1 hx with rfl | hx
          · rcases h with h | h
            · rw [e] at h; exact absurd h h1
            · rw [e] at h; exact .inl h
          · exact .inr ⟨h1, x, hx, e⟩
    · rw [if_neg h]
      have h2 : f.group.size ≠ 0 := fun e => h (.inl e)
      constructor
      · rintro (h1 | ⟨h1, x, hx, e⟩)
        · rcases List.mem_append.1 h1 with h1 | h1
          · exact .inl h1
          · obtain rfl : g = f.group := by simpa using h1
            exact .inr ⟨h2, f, by simp, rfl⟩
        · exact .inr ⟨h1, x, by simp [hx], e⟩
      · rintro (h1 | ⟨h1, x, hx, e⟩)
        · exact .inl (by simp [h1])
        · rcases List.mem_cons.1 hx with rfl | hx
          · exact .inl (by simp [e])
          · exact .inr ⟨h1, x, hx, e⟩
theorem mem_groupsOf (g : ByteArray) (c : List Frg) : g ∈ groupsOf c ↔ g.size ≠ 0 ∧ ∃ f ∈ c, f.group = g := by
  unfold groupsOf; rw [mem_groupsFrom]; simp
theorem groupsFrom_append (l : List ByteArray) (c d : List Frg) : groupsFrom l (c ++ d) = groupsFrom (groupsFrom l c) d := by
  induction c generalizing l with
  | nil => rfl
  | cons f r ih => rw [List.cons_append, groupsFrom, groupsFrom, ih]
theorem groupsFrom_more (l : List ByteArray) (c : List Frg) : ∃ r, groupsFrom l c = l ++ r := by
  induction c generalizing l with
  | nil => exact ⟨[], by simp [groupsFrom]⟩
  | cons f r ih =>
    rw [groupsFrom]
    obtain ⟨s, hs⟩ := ih (if f.group.size = 0 ∨ f.group ∈ l then l else l ++ [f.group])
    rw [hs]
    split
    · exact ⟨s, rfl⟩
    · exact ⟨f.group :: s, by simp⟩
theorem gone_iff (l : List ByteArray) (f : Frg) : f.gone l = true ↔ f.group.size ≠ 0 ∧ f.group ∈ l := by unfold Frg.gone; simp
theorem gone_groups (f : Frg) (c : List Frg) : f.gone (groupsOf c) = true ↔ f.group.size ≠ 0 ∧ ∃ x ∈ c, x.group = f.group := by
  rw [gone_iff, mem_groupsOf]
  exact ⟨fun ⟨h, _, h2⟩ => ⟨h, h2⟩, fun ⟨h, h2⟩ => ⟨h, h, h2⟩⟩
theorem joinU_frs (a b : Prt) : (joinU a b).frs = a.frs ++ (keepF (groupsOf a.frs) b.frs).map (Frg.mapR fun r => (r.re (toOf (groupsOf a.frs) b.frs)).shift a.frs.length) := by
  unfold joinU dropP keepF
  simp only [List.map_map]
  congr 2
  funext f
  simp [Frg.mapR, Function.comp_def]
theorem joinU_dfs (a b : Prt) : (joinU a b).dfs = a.dfs ++ (reDfs (toOf (groupsOf a.frs) b.frs) b.dfs).map (Df.shift a.frs.length) := rfl
theorem gone_join (a b : Prt) (f : Frg) : f.gone (groupsOf (joinU a b).frs) = (f.gone (groupsOf a.frs) || f.gone (groupsOf b.frs)) := by
  rw [Bool.eq_iff_iff, Bool.or_eq_true, gone_groups, gone_groups, gone_groups, joinU_frs]
  constructor
  · rintro ⟨h, x, hx, e⟩
    rcases List.mem_append.1 hx with hx | hx
    · exact .inl ⟨h, x, hx, e⟩
    · obtain ⟨y, hy, rfl⟩ := List.mem_map.1 hx
      exact .inr ⟨h, y, (List.mem_filter.1 hy).1, e⟩
  · rintro (⟨h, x, hx, e⟩ | ⟨h, x, hx, e⟩)
    · exact ⟨h, x, List.mem_append_left _ hx, e⟩
    · by_cases hg : x.gone (groupsOf a.frs) = true
      · obtain ⟨_, y, hy, e'⟩ := (gone_groups _ _).1 hg
        exact ⟨h, y, List.mem_append_left _ hy, e'.trans e⟩
      · exact ⟨h, x.mapR _, List.mem_append_right _ (List.mem_map_of_mem (List.mem_filter.2 ⟨hx, by simpa using hg⟩)), e⟩

theorem shift_shift (n m : Nat) (r : Rel) : (r.shift n).shift m = r.shift (m + n) := by
  unfold Rel.shift
  by_cases h : r.name.size = 0 ∧ 0 ≤ r.frag
  · rw [if_pos h, if_pos ⟨h.1, by show (0 : Int) ≤ r.frag + n; omega⟩, if_pos h]
    simp only [Rel.mk.injEq, true_and, and_true]
    omega
  · rw [if_neg h, if_neg h, if_neg h]
theorem dshift_shift (n m : Nat) (d : Df) : (d.shift n).shift m = d.shift (m + n) := by
  unfold Df.shift
  by_cases h : d.kind ≠ 3
  · rw [if_pos h, if_pos (by exact h), if_pos h]
    simp only [Df.mk.injEq, true_and, and_true]
    omega
  · rw [if_neg h, if_neg h, if_neg h]
theorem re_ok {n n' : Nat} {to : List Int} (h : ∀ j, j < n → -1 ≤ to.getD j 0 ∧ to.getD j 0 < n') {r : Rel} (hr : r.okIn n) : (r.re to).okIn n' := by
  unfold Rel.re
  split
  · rename_i h1
    intro _
    have := hr h1.1
    exact h _ (by omega)
  · rename_i h1
    intro h2
    have := hr h2
    have : ¬ 0 ≤ r.frag := fun h3 => h1 ⟨h2, h3⟩
    omega
theorem shift_ok {n m : Nat} {r : Rel} (hr : r.okIn n) : (r.shift m).okIn (m + n) := by
  unfold Rel.shift
  split
  · rename_i h1
    intro _
    have := hr h1.1
    show -1 ≤ r.frag + m ∧ r.frag + m < ((m + n : Nat) : Int)
    omega
  · intro h2
    have := hr h2
    omega
theorem ok_more {n n' : Nat} (h : n ≤ n') {r : Rel} (hr : r.okIn n) : r.okIn n' := fun h2 => by have := hr h2; omega
theorem df_more {n n' : Nat} (h : n ≤ n') {d : Df} (hr : d.okIn n) : d.okIn n' := ⟨hr.1, fun h2 => by have := hr.2 h2; omega⟩
theorem dropP_frs (p : Prt) (l : List ByteArray) : (dropP p l).frs = (keepF l p.frs).map (Frg.mapR (Rel.re (toOf l p.frs))) := rfl
theorem dropP_dfs (p : Prt) (l : List ByteArray) : (dropP p l).dfs = reDfs (toOf l p.frs) p.dfs := rfl
theorem dropP_len (p : Prt) (l : List ByteArray) : (dropP p l).frs.length = (keepF l p.frs).length := by rw [dropP_frs, List.length_map]
theorem right_drop {p : Prt} (h : p.Right) (l : List ByteArray) : (dropP p l).Right := by
  refine ⟨fun f hf r hr => ?_, fun d hd => ?_⟩
  · rw [dropP_len]
    rw [dropP_frs] at hf
    obtain ⟨x, hx, rfl⟩ := List.mem_map.1 hf
    obtain ⟨y, hy, rfl⟩ := List.mem_map.1 (show r ∈ x.rs.map _ from hr)
    exact re_ok (fun j hj => to_bound l hj) (h.rel x (List.mem_filter.1 hx).1 y hy)
  · rw [dropP_len]
    rw [dropP_dfs] at hd
    obtain ⟨hd, h0⟩ := List.mem_filter.1 hd
    have h0 : 0 ≤ d.frag := by simpa using h0
    obtain ⟨x, hx, rfl⟩ := List.mem_map.1 hd
    obtain ⟨h1, h2⟩ := h.df x hx
    by_cases hk : x.kind = 3
    · rw [Df.re_common _ hk] at h0 ⊢
      exact ⟨h1, fun hn => absurd hk hn⟩
    · rw [Df.re_at hk rfl] at h0 ⊢
      refine ⟨fun hn => absurd hn hk, fun _ => ⟨h0, ?_⟩⟩
      have := h2 hk
      exact (to_bound l (c := p.frs) (j := x.frag.toNat) (by omega)).2
def addP (a c : Prt) : Prt := ⟨a.frs ++ c.frs.map (Frg.mapR (Rel.shift a.frs.length)), a.dfs ++ c.dfs.map (Df.shift a.frs.length)⟩
theorem joinU_add (a b : Prt) : joinU a b = addP a (dropP b (groupsOf a.frs)) := rfl
theorem right_add {a c : Prt} (ha : a.Right) (hc : c.Right) : (addP a c).Right := by
  have hn : (addP a c).frs.length = a.frs.length + c.frs.length := by simp [addP]
  refine ⟨fun f hf r hr => ?_, fun d hd => ?_⟩
  · rw [hn]
    rcases List.mem_append.1 hf with hf | hf
    · exact ok_more (by omega) (ha.rel f hf r hr)
    · obtain ⟨x, hx, rfl⟩ := List.mem_map.1 hf
      obtain ⟨y, hy, rfl⟩ := List.mem_map.1 (show r ∈ x.rs.map _ from hr)
      exact shift_ok (hc.rel x hx y hy)
  · rw [hn]
    rcases List.mem_append.1 hd with hd | hd
    · exact df_more (by omega) (ha.df d hd)
    · obtain ⟨x, hx, rfl⟩ := List.mem_map.1 hd
      obtain ⟨h1, h2⟩ := hc.df x hx
      by_cases hk : x.kind = 3
      · rw [Df.shift_common _ hk]
        exact ⟨h1, fun hn => absurd hk hn⟩
      · have e : x.shift a.frs.length = { x with frag := x.frag + a.frs.length } := if_pos hk
        rw [e]
        refine ⟨fun hn => absurd hn hk, fun _ => ?_⟩
        have := h2 hk
        show 0 ≤ x.frag + a.frs.length ∧ x.frag + a.frs.length < ((a.frs.length + c.frs.length : Nat) : Int)
        omega
theorem right_join {a b : Prt} (ha : a.Right) (hb : b.Right) : (joinU a b).Right := right_add ha (right_drop hb _)
theorem right_nil : Prt.nil.Right := ⟨fun f hf => absurd hf (by simp [Prt.nil]), fun d hd => absurd hd (by simp [Prt.nil])⟩

theorem drop_join {b c : Prt} (hb : b.Right) (hc : c.Right) {l u : List ByteArray} (hu : ∀ f : Frg, f.gone u = (f.gone l || f.gone (groupsOf b.frs))) :
    dropP (joinU b c) l = addP (dropP b l) (dropP c u) := by
  have e1 : (dropP (joinU b c) l).frs = (addP (dropP b l) (dropP c u)).frs := by
    show _ = (dropP b l).frs ++ (dropP c u).frs.map (Frg.mapR (Rel.shift (dropP b l).frs.length))
    rw [dropP_len, dropP_frs, dropP_frs, dropP_frs]
    rw [joinU_frs, keepF_append, List.map_append, keepF_map, keepF_keepF hu, List.map_map, List.map_map]
    congr 1
    · refine List.map_congr_left fun f hf => ?_
      unfold Frg.mapR
      congr 1
      exact List.map_congr_left fun r hr => re_left l b.frs _ (hb.rel f (List.mem_filter.1 hf).1 r hr)
    · refine List.map_congr_left fun f hf => ?_
      unfold Frg.mapR
      simp only [Function.comp_apply, List.map_map, Frg.mk.injEq, true_and]
      exact List.map_congr_left fun r hr => re_two hu b.frs c.frs _ (hc.rel f (List.mem_filter.1 hf).1 r hr)
  have e2 : (dropP (joinU b c) l).dfs = (addP (dropP b l) (dropP c u)).dfs := by
    show _ = (dropP b l).dfs ++ (dropP c u).dfs.map (Df.shift (dropP b l).frs.length)
    rw [dropP_len, dropP_dfs, dropP_dfs, dropP_dfs, joinU_dfs, reDfs_append, joinU_frs, reDfs_left l b.frs _ hb.df, reDfs_two hu b.frs c.frs _ hc.df]
  exact Prt.mk.injEq _ _ _ _ ▸ ⟨e1, e2⟩
theorem addP_assoc (a b c : Prt) : addP (addP a b) c = addP a (addP b c) := by
  have hn : (addP a b).frs.length = a.frs.length + b.frs.length := by simp [addP]
  have e1 : (addP (addP a b) c).frs = (addP a (addP b c)).frs := by
    show (addP a b).frs ++ c.frs.map (Frg.mapR (Rel.shift (addP a b).frs.length)) = a.frs ++ (b.frs ++ c.frs.map (Frg.mapR (Rel.shift b.frs.length))).map (Frg.mapR (Rel.shift a.frs.length))
    rw [hn, List.map_append, List.map_map, ← List.append_assoc]
    congr 1
    refine List.map_congr_left fun f _ => ?_
    unfold Frg.mapR
    simp only [Function.comp_apply, List.map_map, Frg.mk.injEq, true_and]
    exact List.map_congr_left fun r _ => (shift_shift _ _ r).symm
  have e2 : (addP (addP a b) c).dfs = (addP a (addP b c)).dfs := by
    show (addP a b).dfs ++ c.dfs.map (Df.shift (addP a b).frs.length) = a.dfs ++ (b.dfs ++ c.dfs.map (Df.shift b.frs.length)).map (Df.shift a.frs.length)
    rw [hn, List.map_append, List.map_map, ← List.append_assoc]
    congr 1
    exact List.map_congr_left fun d _ => (dshift_shift _ _ d).symm
  exact Prt.mk.injEq _ _ _ _ ▸ ⟨e1, e2⟩
/-- Whichever two are joined first, it comes to the same. -/
theorem join_assoc {a b c : Prt} (hb : b.Right) (hc : c.Right) : joinU (joinU a b) c = joinU a (joinU b c) := by
  rw [joinU_add, joinU_add a (joinU b c), drop_join hb hc (gone_join a b), joinU_add a b, addP_assoc]

/-- Where nothing is gone, nothing changes. -/
theorem drop_none {p : Prt} (h : p.Right) {l : List ByteArray} (hl : ∀ f ∈ p.frs, f.gone l = false) : dropP p l = p := by
  have hk : keepF l p.frs = p.frs := List.filter_eq_self.2 fun f hf => by rw [hl f hf]; rfl
  have e1 : (dropP p l).frs = p.frs := by
    rw [dropP_frs, hk]
    conv => rhs; rw [← List.map_id p.frs]
    refine List.map_congr_left fun f hf => ?_
    have : f.rs.map (Rel.re (toOf l p.frs)) = f.rs := by
      conv => rhs; rw [← List.map_id f.rs]
      refine List.map_congr_left fun r hr => ?_
      unfold Rel.re
      split
      · rename_i h1
        have := h.rel f hf r hr h1.1
        rw [to_all l hl (by omega), Int.toNat_of_nonneg h1.2]; rfl
      · rfl
    unfold Frg.mapR
    rw [this]; rfl
  have e2 : (dropP p l).dfs = p.dfs := by
    rw [dropP_dfs]
    unfold reDfs
    have : p.dfs.map (Df.re (toOf l p.frs)) = p.dfs := by
      conv => rhs; rw [← List.map_id p.dfs]
      refine List.map_congr_left fun d hd => ?_
      unfold Df.re
      split
      · rename_i h1
        have := (h.df d hd).2 h1
        rw [to_all l hl (by omega), Int.toNat_of_nonneg this.1]; rfl
      · rfl
    rw [this, List.filter_eq_self]
    intro d hd
    obtain ⟨h1, h2⟩ := h.df d hd
    by_cases hk : d.kind = 3
    · simp [h1 hk]
    · simp [(h2 hk).1]
  exact Prt.mk.injEq _ _ _ _ ▸ ⟨e1, e2⟩
theorem shift_zero (r : Rel) : r.shift 0 = r := by
  unfold Rel.shift
  split
  · simp
  · rfl
theorem dshift_zero (d : Df) : d.shift 0 = d := by
  unfold Df.shift
  split
  · simp
  · rfl
theorem nil_join {a : Prt} (h : a.Right) : joinU .nil a = a := by
  rw [joinU_add, drop_none h (fun f _ => by unfold Frg.gone; simp [Prt.nil, groupsOf, groupsFrom])]
  have e1 : a.frs.map (Frg.mapR (Rel.shift 0)) = a.frs := by
    conv => rhs; rw [← List.map_id a.frs]
    refine List.map_congr_left fun f _ => ?_
    have : f.rs.map (Rel.shift 0) = f.rs := by
      conv => rhs; rw [← List.map_id f.rs]
      exact List.map_congr_left fun r _ => shift_zero r
    unfold Frg.mapR
    rw [this]; rfl
  have e2 : a.dfs.map (Df.shift 0) = a.dfs := by
    conv => rhs; rw [← List.map_id a.dfs]
    exact List.map_congr_left fun r _ => dshift_zero r
  show Prt.mk ([] ++ a.frs.map (Frg.mapR (Rel.shift 0))) ([] ++ a.dfs.map (Df.shift 0)) = a
  rw [e1, e2]; rfl
theorem join_nil (a : Prt) : joinU a .nil = a := by
  show Prt.mk (a.frs ++ []) (a.dfs ++ []) = a
  rw [List.append_nil, List.append_nil]
end Go.Proofs.Ytbonpilpmjghbaa
