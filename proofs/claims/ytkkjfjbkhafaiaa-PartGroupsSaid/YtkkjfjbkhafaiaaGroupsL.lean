/- The groups of parts that were joined, counted. No program in sight. -/
import Derived.Test.YtkkjfjbkhafaiaaPartK
namespace Go.Proofs.Ytkkjfjbkhafaiaa

/-- How many fragments are of a group. -/
def cntG (s : ByteArray) (c : List Frg) : Nat := c.countP fun f => f.group == s
theorem cntG_append (s : ByteArray) (c d : List Frg) : cntG s (c ++ d) = cntG s c + cntG s d := List.countP_append ..
theorem cntG_one (s : ByteArray) (f : Frg) : cntG s [f] = if f.group = s then 1 else 0 := by
  unfold cntG
  rw [List.countP_singleton]
  by_cases h : f.group = s <;> simp [h]
theorem cntG_le (s : ByteArray) (c : List Frg) : cntG s c ≤ c.length := List.countP_le_length
theorem cntG_map (s : ByteArray) (g : Rel → Rel) (c : List Frg) : cntG s (c.map (Frg.mapR g)) = cntG s c := by
  unfold cntG
  rw [List.countP_map]; rfl
theorem cntG_none {s : ByteArray} {c : List Frg} (h : ∀ f ∈ c, f.group ≠ s) : cntG s c = 0 := by
  unfold cntG
  rw [List.countP_eq_zero]
  intro f hf
  simpa using h f hf
theorem cntG_keep {s : ByteArray} {l : List ByteArray} {c : List Frg} (h : s ∉ l) : cntG s (keepF l c) = cntG s c := by
  unfold cntG keepF
  rw [List.countP_filter]
  congr 1
  funext f
  by_cases e : f.group = s
  · have : f.gone l = false := by unfold Frg.gone; exact decide_eq_false fun hn => h (e ▸ hn.2)
    simp [e, this]
  · simp [e]
theorem cntG_join (a b : Prt) {s : ByteArray} (hs : s ∈ groupsOf (joinU a b).frs) : cntG s (joinU a b).frs = if s ∈ groupsOf a.frs then cntG s a.frs else cntG s b.frs := by
  have hsz := ((mem_groupsOf _ _).1 hs).1
  rw [joinU_frs, cntG_append, cntG_map]
  by_cases h : s ∈ groupsOf a.frs
  · rw [if_pos h, cntG_none (c := keepF _ _), Nat.add_zero]
    intro f hf e
    have h2 := (List.mem_filter.1 hf).2
    have : f.gone (groupsOf a.frs) = true := by unfold Frg.gone; exact decide_eq_true ⟨by rw [e]; exact hsz, by rw [e]; exact h⟩
    rw [this] at h2
    simp at h2
  · rw [if_neg h, cntG_keep h, cntG_none (c := a.frs), Nat.zero_add]
    intro f hf e
    exact h ((mem_groupsOf _ _).2 ⟨hsz, f, hf, e⟩)
theorem groups_join (a b : Prt) : ∃ r, groupsOf (joinU a b).frs = groupsOf a.frs ++ r := by
  unfold groupsOf
  rw [joinU_frs, groupsFrom_append]
  exact groupsFrom_more _ _
theorem gone_dropped (p : Prt) : ∀ f ∈ (dropP p (groupsOf p.frs)).frs, f.group.size = 0 := by
  intro f hf
  rw [dropP_frs] at hf
  obtain ⟨x, hx, rfl⟩ := List.mem_map.1 hf
  obtain ⟨hx, hg⟩ := List.mem_filter.1 hx
  rcases Nat.eq_zero_or_pos x.group.size with h | h
  · exact h
  · have : x.gone (groupsOf p.frs) = true := (gone_groups _ _).2 ⟨by omega, x, hx, rfl⟩
    rw [this] at hg
    simp at hg
theorem groups_dropped (p : Prt) : groupsOf (dropP p (groupsOf p.frs)).frs = [] := by
  rcases h : groupsOf (dropP p (groupsOf p.frs)).frs with _ | ⟨g, r⟩
  · rfl
  · have hg : g ∈ groupsOf (dropP p (groupsOf p.frs)).frs := by rw [h]; simp
    obtain ⟨h1, f, hf, e⟩ := (mem_groupsOf _ _).1 hg
    exact absurd (by rw [← e]; exact gone_dropped p f hf) h1
theorem drop_again {p : Prt} (h : p.Right) : dropP (dropP p (groupsOf p.frs)) (groupsOf p.frs) = dropP p (groupsOf p.frs) :=
  drop_none (right_drop h _) fun f hf => by
    unfold Frg.gone
    exact decide_eq_false fun hn => hn.1 (gone_dropped p f hf)
theorem cntG_snoc (s : ByteArray) (c : List Frg) (f : Frg) : cntG s (c ++ [f]) = cntG s c + (if f.group = s then 1 else 0) := by rw [cntG_append, cntG_one]
end Go.Proofs.Ytkkjfjbkhafaiaa
