/- layout.Where: where a name stands; what holds of definitions that count. No program in sight. -/
import Derived.Test.YtmlomnhjbmocfaaDoorLayF
import Derived.Test.YtmlomnhjbmocfaaDoorSetD
set_option linter.all false
namespace Go.Proofs.YtmlomnhjbmocfaaDoor

theorem find_step (Q : Df → Prop) (s : ByteArray) (hmrg : ∀ b d : Df, Q b → Q d → b.kind = 3 → d.kind = 3 → Q { b with size := max b.size d.size, align := max b.align d.align })
    {st : Df × Bool} {d : Df} (hd : d.name = s → Q d) (h : st.1.kind = 0 ∨ Q st.1) : (findStep s st d).1.kind = 0 ∨ Q (findStep s st d).1 := by
  unfold findStep
  split
  · exact h
  · split
    · exact h
    · rename_i hn
      have hq := hd (by simpa using hn)
      split
      · exact .inl rfl
      · split
        · exact .inr hq
        · split
          · rename_i h5
            rcases h with h | h
            · omega
            · exact .inr (hmrg _ _ h hq h5.2 h5.1)
          · exact h
theorem find_fold (Q : Df → Prop) (s : ByteArray) (hmrg : ∀ b d : Df, Q b → Q d → b.kind = 3 → d.kind = 3 → Q { b with size := max b.size d.size, align := max b.align d.align }) :
    ∀ (l : List Df) (st : Df × Bool), (∀ d ∈ l, d.name = s → Q d) → (st.1.kind = 0 ∨ Q st.1) → ((l.foldl (findStep s) st).1.kind = 0 ∨ Q (l.foldl (findStep s) st).1)
  | [], _, _, h => h
  | d :: r, st, hl, h => find_fold Q s hmrg r _ (fun d' hd' => hl d' (by simp [hd'])) (find_step Q s hmrg (hl d (by simp)) h)
theorem find_prop (Q : Df → Prop) {dfs : List Df} {s : ByteArray} (hmem : ∀ d ∈ dfs, d.name = s → Q d)
    (hmrg : ∀ b d : Df, Q b → Q d → b.kind = 3 → d.kind = 3 → Q { b with size := max b.size d.size, align := max b.align d.align }) {d : Df} (h : findL dfs s = (d, 0)) : Q d := by
  have h1 := find_fold Q s hmrg dfs (.zero, false) hmem (.inl rfl)
  unfold findL findEnd at h
  split at h
  · injection h with _ h; cases h
  · split at h
    · injection h with _ h; cases h
    · rename_i h2
      injection h with h _
      rw [← h]
      rcases h1 with h1 | h1
      · exact absurd h1 h2
      · exact h1
/-- What holds of the definition that counts. -/
structure Counts (p : Prt) (s : ByteArray) (d : Df) : Prop where
  name : d.name = s
  kind : d.kind = 1 ∨ d.kind = 2 ∨ d.kind = 3
  at_ : d.kind ≠ 3 → 0 ≤ d.frag ∧ d.frag < p.frs.length ∧ ∃ f, p.frs[d.frag.toNat]? = some f ∧ 0 ≤ d.at_ ∧ d.at_ ≤ f.long
  in_ : s ∈ definedP p
theorem counts_of {p : Prt} (hc : ckPart p = 0) {s : ByteArray} {d : Df} (h : findL p.dfs s = (d, 0)) : Counts p s d := by
  refine find_prop (Counts p s) (fun d hd hn => ?_) (fun b d hb hd h3 h3' => ⟨hb.name, hb.kind, fun hn => absurd h3 hn, hb.in_⟩) h
  have h1 := ((ok_iff p).1 hc).df d hd
  have hin : s ∈ definedP p := setS_mem.2 (List.mem_map.2 ⟨d, hd, hn⟩)
  unfold ckDef at h1
  split at h1
  · cases h1
  · split at h1
    · rename_i hk
      split at h1
      · cases h1
      · rename_i hf
        obtain ⟨f, hf'⟩ : ∃ f, p.frs[d.frag.toNat]? = some f := ⟨_, List.getElem?_eq_getElem (by omega)⟩
        rw [hf'] at h1
        simp only at h1
        split at h1
        · cases h1
        · exact ⟨hn, by omega, fun _ => ⟨by omega, by omega, f, hf', by omega, by omega⟩, hin⟩
    · split at h1
      · rename_i hk
        exact ⟨hn, .inr (.inr hk), fun h => absurd hk h, hin⟩
      · cases h1
/-- Whether a name is common. -/
def comB (dfs : List Df) (n : ByteArray) : Bool := decide ((findL dfs n).2 = 0 ∧ (findL dfs n).1.kind = 3)
theorem com_ns (dfs : List Df) (a : Nat) (l : List ByteArray) : (comAt dfs a l).ns = l.filter (comB dfs) := by
  have : ∀ (r : List ByteArray) (st : CSt), (r.foldl (comStep dfs) st).ns = st.ns ++ r.filter (comB dfs) := by
    intro r
    induction r with
    | nil => intro st; simp
    | cons x r ih =>
      intro st
      rw [List.foldl_cons, ih]
      unfold comStep
      by_cases h : (findL dfs x).2 = 0 ∧ (findL dfs x).1.kind = 3
      · rw [if_pos h, List.filter_cons_of_pos (by unfold comB; exact decide_eq_true h)]
        simp
      · rw [if_neg h, List.filter_cons_of_neg (by unfold comB; simpa using h)]
  exact this l _
theorem lay_ns_rising (p : Prt) (base : Nat) : Rising ((layEnd p base).ns.map keyOf) := by
  unfold layEnd
  rw [com_ns]
  exact List.Pairwise.sublist (List.filter_sublist.map keyOf) (setS_rising _)
theorem lay_ns_in {p : Prt} (hc : ckPart p = 0) (base : Nat) {s : ByteArray} {d : Df} (h : findL p.dfs s = (d, 0)) (h3 : d.kind = 3) : s ∈ (layEnd p base).ns := by
  unfold layEnd
  rw [com_ns, List.mem_filter]
  refine ⟨(counts_of hc h).in_, ?_⟩
  unfold comB
  rw [h]
  exact decide_eq_true ⟨rfl, h3⟩
theorem lay_len {p : Prt} (hc : ckPart p = 0) (base : Nat) : (layEnd p base).ns.length = (layEnd p base).cs.length ∧ (layEnd p base).ns.length ≤ (definedP p).length :=
  ⟨(com_at (comOk_of hc) _ _).len, (com_at (comOk_of hc) _ _).sub.length_le⟩
theorem rising_at {l : List ByteArray} (h : Rising (l.map keyOf)) {i j : Nat} {x : ByteArray} (hi : l[i]? = some x) (hj : l[j]? = some x) : i = j := by
  have key : ∀ {i j : Nat}, l[i]? = some x → l[j]? = some x → ¬ i < j := by
    intro i j hi hj hlt
    obtain ⟨h1, e1⟩ := List.getElem?_eq_some_iff.1 hi
    obtain ⟨h2, e2⟩ := List.getElem?_eq_some_iff.1 hj
    have := List.pairwise_iff_getElem.1 h i j (by simpa using h1) (by simpa using h2) hlt
    simp only [List.getElem_map, e1, e2] at this
    exact this.2 rfl
  have := key hi hj
  have := key hj hi
  omega
/-- Where a name stands. -/
def comAdr (p : Prt) (base : Nat) (s : ByteArray) : Nat := (layEnd p base).cs.getD ((layEnd p base).ns.idxOf s) 0
theorem comAdr_eq {p : Prt} {base k : Nat} {s : ByteArray} {c : Nat} (hk : (layEnd p base).ns[k]? = some s) (hc : (layEnd p base).cs[k]? = some c) : comAdr p base s = c := by
  have hm : s ∈ (layEnd p base).ns := List.mem_of_getElem? hk
  have hlt : (layEnd p base).ns.idxOf s < (layEnd p base).ns.length := List.idxOf_lt_length_iff.2 hm
  have h1 : (layEnd p base).ns[(layEnd p base).ns.idxOf s]? = some s := by
    rw [List.getElem?_eq_getElem hlt]
    congr 1
    exact List.getElem_idxOf hlt
  have e := rising_at (lay_ns_rising p base) h1 hk
  unfold comAdr
  rw [e, List.getD_eq_getElem?_getD, hc]
  rfl
def whereA (p : Prt) (base : Nat) (s : ByteArray) : Int × Int :=
  if (findP p s).2 ≠ 0 then (0, (findP p s).2)
  else if (findP p s).1.kind = 3 then (comAdr p base s, 0)
  else (adrOf p.frs base (findP p s).1.frag.toNat + (findP p s).1.at_, 0)
theorem findP_good {p : Prt} {s : ByteArray} (h : ckPart p = 0) : findP p s = findL p.dfs s := if_neg (by simp [h])
end Go.Proofs.YtmlomnhjbmocfaaDoor
