/- Parts among a row's arguments, opened, with what the row's reach says of their sizes. -/
import Derived.Test.YtkkjfjbkhafaiaaDoorOpenP
import Derived.Test.YtkkjfjbkhafaiaaDoorRefOwn
namespace Go.Proofs.YtkkjfjbkhafaiaaDoor
open Go.RowKit Go.ChangeShapes Go.WideShapes Go.Deep Go.Joins
set_option maxRecDepth 100000

section
variable {H : Type} {enc : TypeId × Value → H} {P : Program} {w : World} {t e : TypeId}

/-- A value of type t that reads as data within the reach is 'cells a' for some a that is 'ok'. -/
def OpensZ (enc : TypeId × Value → H) (P : Program) (w : World) (t : TypeId) {α : Type} (cells : α → List Value) (ok : α → Prop) : Prop :=
  ∀ fuel cs x, DataW.trod enc P w 0 (fun _ => true) true fuel t cs = some x → (∀ n ∈ x.1.weights P t, n ≤ reachBytes) → ∃ a, cs = cells a ∧ ok a
theorem Opens.z {α : Type} {cells : α → List Value} {ok : α → Prop} (h : Opens enc P w t cells ok) : OpensZ enc P w t cells ok := fun f cs x hx _ => h f cs x hx
theorem weightsAll_mem : ∀ {ds : List (DataW H)} {d : DataW H}, d ∈ ds → ∀ {n : Nat}, n ∈ d.weights P e → n ∈ DataW.weightsAll P e ds
  | x :: r, d, h, n, hn => by
    simp only [DataW.weightsAll, List.mem_append]
    rcases List.mem_cons.1 h with rfl | h
    · exact .inl hn
    · exact .inr (weightsAll_mem h hn)
theorem opensZ_slice {α : Type} {cells : α → List Value} {ok : α → Prop} {k : Nat} (ht : P.underlying t = some (.slice e)) (hk : P.cellsOf e = k) (hk0 : 0 < k) (hlen : ∀ a, (cells a).length = k)
    (he : OpensZ enc P w e cells ok) : OpensZ enc P w t (SliceIn.cells (α := α)) (fun s => SliceIn.Ok w cells ok k s ∧ s.l.length * P.bytesOf e ≤ reachBytes) := fun fuel cs x h hw => by
  rcases open_slice ht h with ⟨rfl, _⟩ | ⟨a, len, cap, m, n, D, Pl, rfl, hb, hl, hm, hmm, hx, hi⟩
  · exact ⟨⟨none, [], 0⟩, rfl, ⟨Reads.none_, fun a h => by simp at h, Nat.le_refl _, Nat.zero_le _⟩, by simp⟩
  · rw [if_pos rfl] at hmm
    subst hmm
    subst hx
    simp only [DataW.weights, ht] at hw
    rw [hk] at hi
    have hw0 := hw _ (List.mem_cons_self ..)
    have hw1 : ∀ i, i < len → ∀ n ∈ (D i).weights P e, n ≤ reachBytes := fun i hi' n hn =>
      hw n (List.mem_cons_of_mem _ (List.mem_append.2 (.inl (weightsAll_mem (List.mem_map.2 ⟨i, by simpa using hi', rfl⟩) hn))))
    obtain ⟨l, hll, hp⟩ := list_of (p := fun i a' => (∀ j, j < k → w.cell? ((a.add (i * k)).add j) = (cells a')[j]?) ∧ ok a') len fun i hi' => by
      obtain ⟨cs', hc, ht'⟩ := hi i (by omega)
      obtain ⟨a', rfl, hok⟩ := he _ _ _ ht' (hw1 i hi')
      obtain ⟨_, _, hat⟩ := World.cells?_some hc
      exact ⟨a', hat, hok⟩
    refine ⟨⟨some a, l, m⟩, by simp [SliceIn.cells, hll], ⟨?_, fun a' ha' => ?_, by simp [hll, hl], by unfold maxLen at hm; exact hm⟩, ?_⟩
    · have hcell : ∀ j u, (l.flatMap cells)[j]? = some u → w.cell? (a.add j) = some u := fun j u hj => by
        obtain ⟨a', h1, h2⟩ := flatMap_at hlen hk0 l j u hj
        have := (hp _ _ h1).1 (j % k) (Nat.mod_lt _ hk0)
        rw [Go.Proofs.YtkkjfjbkhafaiaaDoor.add_of_add, Nat.mul_comm, Nat.div_add_mod, h2] at this
        exact this
      rcases Nat.eq_zero_or_pos l.length with h0 | h0
      · exact ⟨flatMap_len hlen l, fun hn => absurd hn (by show ¬ 0 < l.length; omega)⟩
      · refine Reads.of_add (flatMap_len hlen l) hk0 ?_ hcell
        have hlf : 0 < (l.flatMap cells).length := by rw [flatMap_len hlen]; exact Nat.mul_pos h0 hk0
        have := lt_of_cell (hcell 0 _ (List.getElem?_eq_getElem hlf))
        rwa [block_of_add] at this
    · obtain ⟨i, hi', rfl⟩ := List.getElem_of_mem ha'
      exact (hp i _ (List.getElem?_eq_getElem hi')).2
    · show l.length * P.bytesOf e ≤ reachBytes
      rw [hll]
      refine Nat.le_trans (Nat.mul_le_mul_right _ ?_) hw0
      simp
end

theorem Tryd.bytesByte : Tryd.prog.bytesOf 5 = 1 := by kernel_rfl
theorem Tryd.bytesRel : Tryd.prog.bytesOf 81 = 48 := by kernel_rfl
theorem Tryd.bytesFrag : Tryd.prog.bytesOf 29 = 88 := by kernel_rfl
theorem Tryd.bytesDef : Tryd.prog.bytesOf 74 = 56 := by kernel_rfl
theorem reach_le : reachBytes ≤ 140737488355328 := by decide

section
variable {H : Type} {enc : TypeId × Value → H} {w : World}
theorem opensZ_frag : OpensZ enc Tryd.prog w 29 FgM.cells (fun x => x.Good w w.heap.size ∧ x.f.bs.length ≤ 140737488355328 ∧ x.f.rs.length * 48 ≤ 140737488355328) := fun fuel cs x h hw => by
  obtain ⟨xs, n, _, hxe, hl, hxl, hf⟩ := DataW.trod_struct Tryd.underlying29 h
  subst hxe
  simp only [DataW.weights, Tryd.underlying29] at hw
  rw [Tryd.cellsFrag] at hl
  match cs, hl with
  | [v0, v1, v2, v3, v4, v5], _ =>
    match xs, hxl with
    | [y0, y1, y2, y3, y4, y5], _ =>
      obtain ⟨a, ea, _⟩ := opens_int Tryd.underlying3 n _ y0 (by simpa [Tryd.cellsInt] using hf 0 _ rfl)
      obtain ⟨b, eb, _⟩ := opens_int Tryd.underlying3 n _ y1 (by simpa [Tryd.cellsInt] using hf 1 _ rfl)
      obtain ⟨c, ec, _⟩ := opens_string Tryd.underlying9 n _ y2 (by simpa [Tryd.cellsStr] using hf 2 _ rfl)
      obtain ⟨d, ed, od, zd⟩ := opensZ_slice (enc := enc) (w := w) Tryd.underlying26 Tryd.cellsByte (by decide) (fun _ => rfl) (opens_byte Tryd.underlying5).z n _ y3 (by simpa [Tryd.cellsBytes] using hf 3 _ rfl) (fun n hn => hw n (DataW.weights_mem_each (j := 3) rfl rfl n hn))
      obtain ⟨e, ee, _⟩ := opens_int Tryd.underlying3 n _ y4 (by simpa [Tryd.cellsInt] using hf 4 _ rfl)
      obtain ⟨f, ef, of, zf⟩ := opensZ_slice (enc := enc) (w := w) Tryd.underlying27 Tryd.cellsRel (by decide) (fun _ => rfl) opens_rel.z n _ y5 (by simpa [Tryd.cellsRels] using hf 5 _ rfl) (fun n hn => hw n (DataW.weights_mem_each (j := 5) rfl rfl n hn))
      simp only [List.cons.injEq, and_true, SliceIn.cells] at ea eb ec ed ee ef
      subst ea eb ec ed ee ef
      rw [Tryd.bytesByte, Nat.mul_one] at zd
      rw [Tryd.bytesRel] at zf
      exact ⟨⟨⟨a, b, c, d.l, e, f.l⟩, d.A, d.c, f.A, f.c⟩, rfl, ⟨by show Reads _ _ _ _ _ (bytesV d.l); rw [bytesV_flat]; exact od.reads, of.reads, Nat.le_trans od.cap od.max, Nat.le_trans of.cap of.max⟩, Nat.le_trans zd reach_le, Nat.le_trans zf reach_le⟩
theorem open_partArgZ {r : Reach} {b0 : Nat} {v : Value} {d : DataW H} {p : List MemPlace} (hv : Value.okWide Tryd.prog w r b0 25 v) (h : DataW.Trod enc Tryd.prog w 0 (fun _ => true) true 25 v d p)
    (hw : ∀ n ∈ d.weights Tryd.prog 25, n ≤ reachBytes) :
    ∃ q : PtM, v = .agg #[.slice q.fa q.frs.length q.fc, .slice q.da q.dfs.length q.dc] ∧ q.At w w.heap.size ∧ q.Fit := by
  obtain ⟨v0, v1, y0, y1, n, rfl, rfl, _, h0, h1⟩ := open_agg2 Tryd.underlying25 (by kernel_rfl) Tryd.cellsPart hv h
  simp only [DataW.weights, Tryd.underlying25] at hw
  obtain ⟨a, ea, oa, za⟩ := opensZ_slice (enc := enc) (w := w) Tryd.underlying22 Tryd.cellsFrag (by decide) (fun _ => rfl) opensZ_frag n _ y0 h0 (fun n hn => hw n (DataW.weights_mem_each (j := 0) rfl rfl n hn))
  obtain ⟨b, eb, ob, zb⟩ := opensZ_slice (enc := enc) (w := w) Tryd.underlying23 Tryd.cellsDef (by decide) (fun _ => rfl) opens_def.z n _ y1 h1 (fun n hn => hw n (DataW.weights_mem_each (j := 1) rfl rfl n hn))
  simp only [List.cons.injEq, and_true, SliceIn.cells] at ea eb
  subst ea eb
  rw [Tryd.bytesFrag] at za
  rw [Tryd.bytesDef] at zb
  exact ⟨⟨a.l, b.l, a.A, a.c, b.A, b.c⟩, rfl, ⟨oa.reads, fun x hx => (oa.each x hx).1, ob.reads, Nat.le_trans oa.cap oa.max, Nat.le_trans ob.cap ob.max⟩,
    Nat.le_trans za reach_le, Nat.le_trans zb reach_le, fun x hx => (oa.each x hx).2.1, fun x hx => (oa.each x hx).2.2⟩
end
end Go.Proofs.YtkkjfjbkhafaiaaDoor
