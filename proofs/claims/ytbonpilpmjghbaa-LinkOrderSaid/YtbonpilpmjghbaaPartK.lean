/- Right parts, dropped and joined, are right. No program in sight. -/
import Derived.Test.YtbonpilpmjghbaaPartL
import Derived.Test.YtbonpilpmjghbaaPartE
set_option linter.all false
namespace Go.Proofs.Ytbonpilpmjghbaa

structure Prt.Ok (p : Prt) : Prop where
  n1 : p.frs.length ≤ 60
  n2 : p.dfs.length ≤ 60
  fr : ∀ f ∈ p.frs, ckFrag p.frs.length f = 0
  df : ∀ d ∈ p.dfs, ckDef p.frs d = 0
theorem ok_iff (p : Prt) : ckPart p = 0 ↔ p.Ok := by
  constructor
  · intro h
    by_cases h1 : 60 < p.frs.length ∨ 60 < p.dfs.length
    · rw [ckPart_1 h1] at h; cases h
    · by_cases h2 : firstBad (p.frs.map (ckFrag p.frs.length)) = 0
      · rw [ckPart_3 h1 h2] at h
        exact ⟨by omega, by omega, fun f hf => firstBad_zero.1 h2 _ (List.mem_map_of_mem hf), fun d hd => firstBad_zero.1 h _ (List.mem_map_of_mem hd)⟩
      · rw [ckPart_2 h1 h2] at h; exact absurd h h2
  · rintro ⟨h1, h2, h3, h4⟩
    have e : firstBad (p.frs.map (ckFrag p.frs.length)) = 0 := firstBad_zero.2 fun e he => by
      obtain ⟨f, hf, rfl⟩ := List.mem_map.1 he
      exact h3 f hf
    rw [ckPart_3 (by omega) e]
    exact firstBad_zero.2 fun e he => by
      obtain ⟨f, hf, rfl⟩ := List.mem_map.1 he
      exact h4 f hf

theorem ckRel_zero {many nb last : Int} {r : Rel} (h : ckRel many nb last r = 0) : (r.name.size = 0 → -1 ≤ r.frag ∧ r.frag < many) ∧ (r.name.size ≠ 0 → r.frag = 0) := by
  unfold ckRel at h
  split at h
  · cases h
  · split at h
    · rename_i h1 h2
      split at h
      · cases h
      · exact ⟨fun _ => by omega, fun h3 => absurd h2 h3⟩
    · rename_i h1 h2
      split at h
      · cases h
      · rename_i h3
        exact ⟨fun h4 => absurd h4 h2, fun _ => by rcases Decidable.em (r.frag = 0) with e | e; · exact e
                                                   · exact absurd (Or.inr e) h3⟩
theorem ckRels_mem {many nb : Int} {l : List Rel} {last : Int} (h : ckRels many nb last l = 0) : ∀ r ∈ l, (r.name.size = 0 → -1 ≤ r.frag ∧ r.frag < many) ∧ (r.name.size ≠ 0 → r.frag = 0) := by
  induction l generalizing last with
  | nil => intro r hr; cases hr
  | cons a l ih =>
    rw [ckRels] at h
    split at h
    · rename_i h1; exact absurd h h1
    · rename_i h1
      intro r hr
      rcases List.mem_cons.1 hr with rfl | hr
      · exact ckRel_zero (Decidable.not_not.1 h1)
      · exact ih h r hr
theorem ckFrag_rels {many : Int} {f : Frg} (h : ckFrag many f = 0) : ckRels many f.bs.length 0 f.rs = 0 := by
  unfold ckFrag at h
  split at h
  · cases h
  · split at h
    · cases h
    · split at h
      · cases h
      · split at h
        · cases h
        · exact h
theorem ckDef_zero {frs : List Frg} {d : Df} (h : ckDef frs d = 0) : d.okIn frs.length := by
  unfold ckDef at h
  split at h
  · cases h
  · split at h
    · rename_i h1
      split at h
      · cases h
      · exact ⟨fun h3 => by omega, fun _ => by omega⟩
    · split at h
      · rename_i h3
        split at h
        · cases h
        · rename_i h4
          exact ⟨fun _ => by rcases Decidable.em (d.frag = 0) with e | e; · exact e
                             · exact absurd (Or.inl e) h4, fun h5 => absurd h3 h5⟩
      · cases h
theorem Prt.Ok.right {p : Prt} (h : p.Ok) : p.Right :=
  ⟨fun f hf r hr => (ckRels_mem (ckFrag_rels (h.fr f hf)) r hr).1, fun d hd => ckDef_zero (h.df d hd)⟩
theorem right_of {p : Prt} (h : ckPart p = 0) : p.Right := ((ok_iff p).1 h).right

/-- What may be done to places: only where nameless ones lead turns. -/
structure Turns (many many' : Int) (g : Rel → Rel) : Prop where
  same : ∀ r, (g r).at_ = r.at_ ∧ (g r).kind = r.kind ∧ (g r).name = r.name ∧ (g r).add = r.add
  named : ∀ r, r.name.size ≠ 0 → (g r).frag = r.frag
  bound : ∀ r, r.name.size = 0 → -1 ≤ r.frag → r.frag < many → -1 ≤ (g r).frag ∧ (g r).frag < many'
theorem ckRel_turn {many many' nb last : Int} {g : Rel → Rel} (hg : Turns many many' g) {r : Rel} (h : ckRel many nb last r = 0) : ckRel many' nb last (g r) = 0 := by
  obtain ⟨e1, e2, e3, e4⟩ := hg.same r
  unfold ckRel at h ⊢
  rw [e1, e2, e3, e4]
  split at h
  · cases h
  · rename_i h1
    rw [if_neg h1]
    split at h
    · rename_i h2
      rw [if_pos h2]
      split at h
      · cases h
      · have := hg.bound r h2 (by omega) (by omega)
        rw [if_neg (by omega)]
    · rename_i h2
      rw [if_neg h2, hg.named r h2]
      exact h
theorem ckRels_turn {many many' nb : Int} {g : Rel → Rel} (hg : Turns many many' g) {l : List Rel} {last : Int} (h : ckRels many nb last l = 0) : ckRels many' nb last (l.map g) = 0 := by
  induction l generalizing last with
  | nil => rfl
  | cons a l ih =>
    rw [ckRels] at h
    split at h
    · rename_i h1; exact absurd h h1
    · rename_i h1
      rw [List.map_cons, ckRels, ckRel_turn hg (by omega), if_neg (by simp), (hg.same a).1, (hg.same a).2.1]
      exact ih h
theorem ckFrag_turn {many many' : Int} {g : Rel → Rel} (hg : Turns many many' g) {f : Frg} (h : ckFrag many f = 0) : ckFrag many' (f.mapR g) = 0 := by
  have e : ∀ m : Int, ckFrag m (f.mapR g) = if f.sect < 1 ∨ 5 < f.sect ∨ alignB f.align = false then 3
      else if f.group.size ≠ 0 ∧ nameB f.group = false then 1
      else if 64 < f.bs.length ∨ 8 < f.rs.length then 2
      else if ¬ f.formed then 4
      else ckRels m f.bs.length 0 (f.rs.map g) := fun m => by
    unfold ckFrag Frg.formed Frg.mapR
    simp only [List.length_map]
  rw [e]
  unfold ckFrag at h
  split at h
  · cases h
  · rename_i h1
    rw [if_neg h1]
    split at h
    · cases h
    · rename_i h2
      rw [if_neg h2]
      split at h
      · cases h
      · rename_i h3
        rw [if_neg h3]
        split at h
        · cases h
        · rename_i h4
          rw [if_neg h4]
          exact ckRels_turn hg h
theorem turns_re {n n' : Nat} {to : List Int} (h : ∀ j, j < n → -1 ≤ to.getD j 0 ∧ to.getD j 0 < n') : Turns n n' (Rel.re to) := by
  refine ⟨fun r => ?_, fun r hr => ?_, fun r hr h1 h2 => ?_⟩
  · unfold Rel.re; split <;> exact ⟨rfl, rfl, rfl, rfl⟩
  · unfold Rel.re; rw [if_neg (fun hn => hr hn.1)]
  · exact re_ok h (r := r) (fun _ => ⟨h1, h2⟩) (by unfold Rel.re; split <;> exact hr)
theorem turns_shift (n m : Nat) : Turns n ((m + n : Nat) : Int) (Rel.shift m) := by
  refine ⟨fun r => ?_, fun r hr => ?_, fun r hr h1 h2 => ?_⟩
  · unfold Rel.shift; split <;> exact ⟨rfl, rfl, rfl, rfl⟩
  · unfold Rel.shift; rw [if_neg (fun hn => hr hn.1)]
  · exact shift_ok (r := r) (fun _ => ⟨h1, h2⟩) (by unfold Rel.shift; split <;> exact hr)
theorem turns_id {n n' : Nat} (h : n ≤ n') : Turns n n' id := ⟨fun _ => ⟨rfl, rfl, rfl, rfl⟩, fun _ _ => rfl, fun r _ h1 h2 => ⟨h1, by show r.frag < n'; omega⟩⟩
theorem mapR_id (f : Frg) : f.mapR id = f := by unfold Frg.mapR; rw [List.map_id]
theorem mapR_long (g : Rel → Rel) (f : Frg) : (f.mapR g).long = f.long := rfl
theorem ckDef_turn {frs frs' : List Frg} {d : Df} {t : Int} (h : ckDef frs d = 0) (h3 : d.kind = 3 → t = 0)
    (h2 : d.kind ≠ 3 → ∀ f, frs[d.frag.toNat]? = some f → 0 ≤ t ∧ t < (frs'.length : Int) ∧ ∃ f', frs'[t.toNat]? = some f' ∧ f'.long = f.long) : ckDef frs' { d with frag := t } = 0 := by
  unfold ckDef at h ⊢
  split at h
  · cases h
  · rename_i h0
    rw [if_neg h0]
    split at h
    · rename_i h1
      rw [if_pos h1]
      split at h
      · cases h
      · rename_i h4
        rcases hf : frs[d.frag.toNat]? with _ | f
        · rw [hf] at h; cases h
        · rw [hf] at h
          obtain ⟨ht0, ht1, f', hf', hl⟩ := h2 (by omega) f hf
          rw [if_neg (by simp only; omega)]
          show (match frs'[t.toNat]? with | some f => _ | none => _) = (0 : Int)
          rw [hf']
          show (if d.at_ < 0 ∨ f'.long < d.at_ ∨ d.size ≠ 0 ∨ d.align ≠ 0 then 3 else 0) = (0 : Int)
          rw [hl]
          exact h
    · rename_i h1
      rw [if_neg h1]
      split at h
      · rename_i h5
        rw [if_pos h5]
        split at h
        · cases h
        · rename_i h6
          rw [h3 h5]
          exact if_neg fun hn => h6 (by
            rcases hn with hn | hn
            · exact absurd rfl hn
            · exact .inr hn)
      · cases h
theorem keep_get (l : List ByteArray) {c : List Frg} {j : Nat} {f : Frg} (hf : c[j]? = some f) (ht : 0 ≤ (toOf l c).getD j 0) : (keepF l c)[((toOf l c).getD j 0).toNat]? = some f := by
  obtain ⟨hj, hv⟩ := List.getElem?_eq_some_iff.1 hf
  obtain ⟨c1, x, c2, rfl, rfl⟩ := split_at hj
  have hx : x = f := by simpa using hv
  subst hx
  rw [to_at] at ht ⊢
  by_cases hg : x.gone l = true
  · rw [if_pos hg] at ht; omega
  · rw [if_neg hg]
    have : keepF l (x :: c2) = x :: keepF l c2 := by simp [keepF, hg]
    rw [keepF_append, this]
    simp
theorem ok_drop {p : Prt} (h : p.Ok) (l : List ByteArray) : (dropP p l).Ok := by
  have hn := dropP_len p l
  refine ⟨by rw [hn]; exact Nat.le_trans (keepF_le _ _) h.n1, ?_, fun f hf => ?_, fun d hd => ?_⟩
  · refine Nat.le_trans (List.length_filter_le ..) ?_
    rw [List.length_map]; exact h.n2
  · rw [hn]
    rw [dropP_frs] at hf
    obtain ⟨x, hx, rfl⟩ := List.mem_map.1 hf
    exact ckFrag_turn (turns_re fun j hj => to_bound l hj) (h.fr x (List.mem_filter.1 hx).1)
  · rw [dropP_dfs] at hd
    obtain ⟨hd, h0⟩ := List.mem_filter.1 hd
    have h0 : 0 ≤ d.frag := by simpa using h0
    obtain ⟨x, hx, rfl⟩ := List.mem_map.1 hd
    have hc := h.df x hx
    obtain ⟨h1, h2⟩ := ckDef_zero hc
    have e : x.re (toOf l p.frs) = { x with frag := (x.re (toOf l p.frs)).frag } := by unfold Df.re; split <;> rfl
    rw [e]
    refine ckDef_turn hc (fun hk => ?_) (fun hk f hf => ?_)
    · rw [Df.re_common _ hk]; exact h1 hk
    · rw [Df.re_at hk rfl] at h0 ⊢
      obtain ⟨ha, hb⟩ := h2 hk
      have hbd := to_bound l (c := p.frs) (j := x.frag.toNat) (by omega)
      refine ⟨h0, by rw [hn]; exact hbd.2, f.mapR (Rel.re (toOf l p.frs)), ?_, rfl⟩
      rw [dropP_frs, List.getElem?_map, keep_get l hf h0]; rfl
theorem ok_add {a c : Prt} (ha : a.Ok) (hc : c.Ok) (hf : (addP a c).fits) : (addP a c).Ok := by
  have hn : (addP a c).frs.length = a.frs.length + c.frs.length := by simp [addP]
  refine ⟨hf.1, hf.2, fun f hf => ?_, fun d hd => ?_⟩
  · rw [hn]
    rcases List.mem_append.1 hf with hf | hf
    · have := ckFrag_turn (turns_id (n := a.frs.length) (n' := a.frs.length + c.frs.length) (by omega)) (ha.fr f hf)
      rwa [mapR_id] at this
    · obtain ⟨x, hx, rfl⟩ := List.mem_map.1 hf
      exact ckFrag_turn (turns_shift _ _) (hc.fr x hx)
  · rcases List.mem_append.1 hd with hd | hd
    · have hk := ha.df d hd
      obtain ⟨h1, h2⟩ := ckDef_zero hk
      refine ckDef_turn (t := d.frag) hk h1 (fun h3 f hf => ?_)
      obtain ⟨h4, h5⟩ := h2 h3
      refine ⟨h4, by rw [hn]; omega, f, ?_, rfl⟩
      show (a.frs ++ _)[d.frag.toNat]? = _
      rw [List.getElem?_append_left (by omega)]; exact hf
    · obtain ⟨x, hx, rfl⟩ := List.mem_map.1 hd
      have hk := hc.df x hx
      obtain ⟨h1, h2⟩ := ckDef_zero hk
      have e : x.shift a.frs.length = { x with frag := (x.shift a.frs.length).frag } := by unfold Df.shift; split <;> rfl
      rw [e]
      refine ckDef_turn hk (fun h3 => ?_) (fun h3 f hf => ?_)
      · rw [Df.shift_common _ h3]; exact h1 h3
      · have es : x.shift a.frs.length = { x with frag := x.frag + a.frs.length } := if_pos h3
        rw [es]
        obtain ⟨h4, h5⟩ := h2 h3
        refine ⟨by show 0 ≤ x.frag + a.frs.length; omega, by rw [hn]; show x.frag + a.frs.length < _; omega, f.mapR (Rel.shift a.frs.length), ?_, rfl⟩
        show (a.frs ++ c.frs.map _)[(x.frag + a.frs.length).toNat]? = _
        rw [List.getElem?_append_right (by omega), show (x.frag + a.frs.length).toNat - a.frs.length = x.frag.toNat by omega, List.getElem?_map, hf]; rfl
theorem ok_join {a b : Prt} (ha : a.Ok) (hb : b.Ok) (hf : (joinU a b).fits) : (joinU a b).Ok := ok_add ha (ok_drop hb _) hf
theorem ok_nil : Prt.nil.Ok := ⟨by simp [Prt.nil], by simp [Prt.nil], fun f hf => absurd hf (by simp [Prt.nil]), fun f hf => absurd hf (by simp [Prt.nil])⟩

theorem joinP_ok {a b : Prt} (ha : a.Ok) (hb : b.Ok) (hf : (joinU a b).fits) : joinP a b = (joinU a b, 0) := by
  unfold joinP
  rw [(ok_iff a).2 ha, (ok_iff b).2 hb, if_neg (by simp), if_neg (by simp), if_pos hf]
theorem joinP_full {a b : Prt} (ha : a.Ok) (hb : b.Ok) (hf : ¬ (joinU a b).fits) : joinP a b = (.nil, 10) := by
  unfold joinP
  rw [(ok_iff a).2 ha, (ok_iff b).2 hb, if_neg (by simp), if_neg (by simp), if_neg hf]
theorem joinP_zero {a b : Prt} (h : (joinP a b).2 = 0) : a.Ok ∧ b.Ok ∧ (joinU a b).fits ∧ joinP a b = (joinU a b, 0) := by
  by_cases h1 : ckPart a = 0
  · by_cases h2 : ckPart b = 0
    · by_cases h3 : (joinU a b).fits
      · exact ⟨(ok_iff a).1 h1, (ok_iff b).1 h2, h3, joinP_ok ((ok_iff a).1 h1) ((ok_iff b).1 h2) h3⟩
      · rw [joinP_full ((ok_iff a).1 h1) ((ok_iff b).1 h2) h3] at h; cases h
    · unfold joinP at h
      rw [if_neg (by simp [h1]), if_pos h2] at h
      exact absurd h h2
  · unfold joinP at h
    rw [if_pos h1] at h
    exact absurd h h1
theorem nil_joinP {a : Prt} (ha : a.Ok) : joinP .nil a = (a, 0) := by
  have e := nil_join ha.right
  rw [joinP_ok ok_nil ha (by rw [e]; exact ⟨ha.n1, ha.n2⟩), e]
theorem joinP_nil {a : Prt} (ha : a.Ok) : joinP a .nil = (a, 0) := by
  have e := join_nil a
  rw [joinP_ok ha ok_nil (by rw [e]; exact ⟨ha.n1, ha.n2⟩), e]
end Go.Proofs.Ytbonpilpmjghbaa
