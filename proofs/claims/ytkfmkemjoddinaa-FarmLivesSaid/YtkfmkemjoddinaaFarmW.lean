/- farm.Copy: what it makes. -/
import Derived.Test.YtkfmkemjoddinaaFmS
import Derived.Test.YtkfmkemjoddinaaFmB
import Derived.Test.YtkfmkemjoddinaaFmC
import Derived.Test.YtkfmkemjoddinaaHdB
set_option linter.all false
namespace Go.Proofs.Ytkfmkemjoddinaa
open Go.RowKit
set_option maxRecDepth 100000

theorem Try.infoNodesF : (Try.prog.info? 39).map (fun i => (i.zero, i.size, i.bytes)) = some (some (.agg #[.int .i64 0, .int .i64 0, .int .i64 0]), 3, 24) := by kernel_rfl
theorem Try.infoBoolsF : (Try.prog.info? 4).map (fun i => (i.zero, i.size, i.bytes)) = some (some (.bool false), 1, 1) := by kernel_rfl
theorem Try.infoGrantsF : (Try.prog.info? 76).map (fun i => (i.zero, i.size, i.bytes)) = some (some (.agg #[.int .i64 0, .int .i64 0]), 2, 16) := by kernel_rfl
theorem Try.infoIntsF : (Try.prog.info? 3).map (fun i => (i.zero, i.size, i.bytes)) = some (some (.int .i64 0), 1, 8) := by kernel_rfl
theorem Try.infoMsgsF : (Try.prog.info? 50).map (fun i => (i.zero, i.size, i.bytes)) = some (some (.agg #[.int .i64 0, .int .i64 0, .int .i64 0, .slice none 0 0, .slice none 0 0]), 5, 72) := by kernel_rfl
set_option maxHeartbeats 1000000 in
theorem cloneNodesF_any (A : Option Addr) (n c : Nat) (cs : List Value) (w : World) (h : Reads w w.heap.size 3 A n cs) (h1 : ∀ u ∈ cs, u.oneCell' = true) (hn : n * 24 ≤ 140737488355328) (hm : n ≤ 9223372036854775807) :
    Calls Try.prog 40 #[.slice A n c] w fun e w' => ∃ v, e = .returned v ∧ w'.ownsRow w.heap.size 39 3 v n cs ∧ Below w.heap.size w w' := by
  obtain ⟨i0, hi, hz0, hz1, hz2⟩ := info_parts Try.infoNodesF
  have hq := fun W => run_eql_slice_nil_any (P := Try.prog) W 23 39 A n c 0 0 Try.underlying23
  rcases A with _ | ad
  · have hn0 : n = 0 := by
      rcases Nat.eq_zero_or_pos n with h0 | h0
      · exact h0
      · obtain ⟨b, off, e, _⟩ := h.2 h0
        cases e
    subst hn0
    have hcs : cs = [] := List.eq_nil_of_length_eq_zero (by simpa using h.1)
    subst hcs
    go_enter Try.func40, Try.ntmps40
    go_wp2
    go_ret
    exact ⟨_, rfl, World.ownsRow_nil _ _ _ _, Below.refl _ _⟩
  · have hown : (w.alloc (.cells #[] 39)).ownsRow w.heap.size 39 3 (.slice (some ⟨w.heap.size, 0, none⟩) 0 0) 0 [] := World.ownsRow_made _ _ _ (Nat.le_refl _) (Nat.zero_le _) rfl
    have hr := h.alloc (Nat.le_refl _) (.cells #[] 39)
    go_enter Try.func40, Try.ntmps40
    go_wp2_with (at_builtin; refine wpList_append_any _ rfl (.tmp 5) (.tmp 6) _ rfl w.heap.size 39 i0 (.agg #[.int .i64 0, .int .i64 0, .int .i64 0]) 3 24 Try.underlying23 hi hz0 hz1 hz2 rfl (by omega) _ _ _ rfl hown w.heap.size (some ad) n c cs rfl hr h1 ?c2 ?c3 ?c4 ?_)
    case c2 => unfold maxLen; omega
    case c3 => omega
    case c4 => simp
    · intro v' w2 hown2 hg2 hat2
      have hb2 : Below w.heap.size w w2 := ((Below.refl _ _).alloc (Nat.le_refl _) _).grown hg2 (by simp) (fun g hg => (hown.lt g hg).1)
      clear hg2 hat2
      go_wp2
      go_ret
      exact ⟨_, rfl, hown2, hb2⟩

set_option maxHeartbeats 1000000 in
theorem cloneBoolsF_any (A : Option Addr) (n c : Nat) (cs : List Value) (w : World) (h : Reads w w.heap.size 1 A n cs) (h1 : ∀ u ∈ cs, u.oneCell' = true) (hn : n * 1 ≤ 140737488355328) (hm : n ≤ 9223372036854775807) :
    Calls Try.prog 46 #[.slice A n c] w fun e w' => ∃ v, e = .returned v ∧ w'.ownsRow w.heap.size 4 1 v n cs ∧ Below w.heap.size w w' := by
  obtain ⟨i0, hi, hz0, hz1, hz2⟩ := info_parts Try.infoBoolsF
  have hq := fun W => run_eql_slice_nil_any (P := Try.prog) W 24 4 A n c 0 0 Try.underlying24
  rcases A with _ | ad
  · have hn0 : n = 0 := by
      rcases Nat.eq_zero_or_pos n with h0 | h0
      · exact h0
      · obtain ⟨b, off, e, _⟩ := h.2 h0
        cases e
    subst hn0
    have hcs : cs = [] := List.eq_nil_of_length_eq_zero (by simpa using h.1)
    subst hcs
    go_enter Try.func46, Try.ntmps46
    go_wp2
    go_ret
    exact ⟨_, rfl, World.ownsRow_nil _ _ _ _, Below.refl _ _⟩
  · have hown : (w.alloc (.cells #[] 4)).ownsRow w.heap.size 4 1 (.slice (some ⟨w.heap.size, 0, none⟩) 0 0) 0 [] := World.ownsRow_made _ _ _ (Nat.le_refl _) (Nat.zero_le _) rfl
    have hr := h.alloc (Nat.le_refl _) (.cells #[] 4)
    go_enter Try.func46, Try.ntmps46
    go_wp2_with (at_builtin; refine wpList_append_any _ rfl (.tmp 5) (.tmp 6) _ rfl w.heap.size 4 i0 (.bool false) 1 1 Try.underlying24 hi hz0 hz1 hz2 rfl (by omega) _ _ _ rfl hown w.heap.size (some ad) n c cs rfl hr h1 ?c2 ?c3 ?c4 ?_)
    case c2 => unfold maxLen; omega
    case c3 => omega
    case c4 => simp
    · intro v' w2 hown2 hg2 hat2
      have hb2 : Below w.heap.size w w2 := ((Below.refl _ _).alloc (Nat.le_refl _) _).grown hg2 (by simp) (fun g hg => (hown.lt g hg).1)
      clear hg2 hat2
      go_wp2
      go_ret
      exact ⟨_, rfl, hown2, hb2⟩

set_option maxHeartbeats 1000000 in
theorem cloneGrantsF_any (A : Option Addr) (n c : Nat) (cs : List Value) (w : World) (h : Reads w w.heap.size 2 A n cs) (h1 : ∀ u ∈ cs, u.oneCell' = true) (hn : n * 16 ≤ 140737488355328) (hm : n ≤ 9223372036854775807) :
    Calls Try.prog 47 #[.slice A n c] w fun e w' => ∃ v, e = .returned v ∧ w'.ownsRow w.heap.size 76 2 v n cs ∧ Below w.heap.size w w' := by
  obtain ⟨i0, hi, hz0, hz1, hz2⟩ := info_parts Try.infoGrantsF
  have hq := fun W => run_eql_slice_nil_any (P := Try.prog) W 25 76 A n c 0 0 Try.underlying25
  rcases A with _ | ad
  · have hn0 : n = 0 := by
      rcases Nat.eq_zero_or_pos n with h0 | h0
      · exact h0
      · obtain ⟨b, off, e, _⟩ := h.2 h0
        cases e
    subst hn0
    have hcs : cs = [] := List.eq_nil_of_length_eq_zero (by simpa using h.1)
    subst hcs
    go_enter Try.func47, Try.ntmps47
    go_wp2
    go_ret
    exact ⟨_, rfl, World.ownsRow_nil _ _ _ _, Below.refl _ _⟩
  · have hown : (w.alloc (.cells #[] 76)).ownsRow w.heap.size 76 2 (.slice (some ⟨w.heap.size, 0, none⟩) 0 0) 0 [] := World.ownsRow_made _ _ _ (Nat.le_refl _) (Nat.zero_le _) rfl
    have hr := h.alloc (Nat.le_refl _) (.cells #[] 76)
    go_enter Try.func47, Try.ntmps47
    go_wp2_with (at_builtin; refine wpList_append_any _ rfl (.tmp 5) (.tmp 6) _ rfl w.heap.size 76 i0 (.agg #[.int .i64 0, .int .i64 0]) 2 16 Try.underlying25 hi hz0 hz1 hz2 rfl (by omega) _ _ _ rfl hown w.heap.size (some ad) n c cs rfl hr h1 ?c2 ?c3 ?c4 ?_)
    case c2 => unfold maxLen; omega
    case c3 => omega
    case c4 => simp
    · intro v' w2 hown2 hg2 hat2
      have hb2 : Below w.heap.size w w2 := ((Below.refl _ _).alloc (Nat.le_refl _) _).grown hg2 (by simp) (fun g hg => (hown.lt g hg).1)
      clear hg2 hat2
      go_wp2
      go_ret
      exact ⟨_, rfl, hown2, hb2⟩

set_option maxHeartbeats 1000000 in
theorem cloneIntsF_any (A : Option Addr) (n c : Nat) (cs : List Value) (w : World) (h : Reads w w.heap.size 1 A n cs) (h1 : ∀ u ∈ cs, u.oneCell' = true) (hn : n * 8 ≤ 140737488355328) (hm : n ≤ 9223372036854775807) :
    Calls Try.prog 48 #[.slice A n c] w fun e w' => ∃ v, e = .returned v ∧ w'.ownsRow w.heap.size 3 1 v n cs ∧ Below w.heap.size w w' := by
  obtain ⟨i0, hi, hz0, hz1, hz2⟩ := info_parts Try.infoIntsF
  have hq := fun W => run_eql_slice_nil_any (P := Try.prog) W 26 3 A n c 0 0 Try.underlying26
  rcases A with _ | ad
  · have hn0 : n = 0 := by
      rcases Nat.eq_zero_or_pos n with h0 | h0
      · exact h0
      · obtain ⟨b, off, e, _⟩ := h.2 h0
        cases e
    subst hn0
    have hcs : cs = [] := List.eq_nil_of_length_eq_zero (by simpa using h.1)
    subst hcs
    go_enter Try.func48, Try.ntmps48
    go_wp2
    go_ret
    exact ⟨_, rfl, World.ownsRow_nil _ _ _ _, Below.refl _ _⟩
  · have hown : (w.alloc (.cells #[] 3)).ownsRow w.heap.size 3 1 (.slice (some ⟨w.heap.size, 0, none⟩) 0 0) 0 [] := World.ownsRow_made _ _ _ (Nat.le_refl _) (Nat.zero_le _) rfl
    have hr := h.alloc (Nat.le_refl _) (.cells #[] 3)
    go_enter Try.func48, Try.ntmps48
    go_wp2_with (at_builtin; refine wpList_append_any _ rfl (.tmp 5) (.tmp 6) _ rfl w.heap.size 3 i0 (.int .i64 0) 1 8 Try.underlying26 hi hz0 hz1 hz2 rfl (by omega) _ _ _ rfl hown w.heap.size (some ad) n c cs rfl hr h1 ?c2 ?c3 ?c4 ?_)
    case c2 => unfold maxLen; omega
    case c3 => omega
    case c4 => simp
    · intro v' w2 hown2 hg2 hat2
      have hb2 : Below w.heap.size w w2 := ((Below.refl _ _).alloc (Nat.le_refl _) _).grown hg2 (by simp) (fun g hg => (hown.lt g hg).1)
      clear hg2 hat2
      go_wp2
      go_ret
      exact ⟨_, rfl, hown2, hb2⟩

set_option maxHeartbeats 1000000 in
theorem cloneMsgsF_any (A : Option Addr) (n c : Nat) (cs : List Value) (w : World) (h : Reads w w.heap.size 5 A n cs) (h1 : ∀ u ∈ cs, u.oneCell' = true) (hn : n * 72 ≤ 140737488355328) (hm : n ≤ 9223372036854775807) :
    Calls Try.prog 49 #[.slice A n c] w fun e w' => ∃ v, e = .returned v ∧ w'.ownsRow w.heap.size 50 5 v n cs ∧ Below w.heap.size w w' := by
  obtain ⟨i0, hi, hz0, hz1, hz2⟩ := info_parts Try.infoMsgsF
  have hq := fun W => run_eql_slice_nil_any (P := Try.prog) W 27 50 A n c 0 0 Try.underlying27
  rcases A with _ | ad
  · have hn0 : n = 0 := by
      rcases Nat.eq_zero_or_pos n with h0 | h0
      · exact h0
      · obtain ⟨b, off, e, _⟩ := h.2 h0
        cases e
    subst hn0
    have hcs : cs = [] := List.eq_nil_of_length_eq_zero (by simpa using h.1)
    subst hcs
    go_enter Try.func49, Try.ntmps49
    go_wp2
    go_ret
    exact ⟨_, rfl, World.ownsRow_nil _ _ _ _, Below.refl _ _⟩
  · have hown : (w.alloc (.cells #[] 50)).ownsRow w.heap.size 50 5 (.slice (some ⟨w.heap.size, 0, none⟩) 0 0) 0 [] := World.ownsRow_made _ _ _ (Nat.le_refl _) (Nat.zero_le _) rfl
    have hr := h.alloc (Nat.le_refl _) (.cells #[] 50)
    go_enter Try.func49, Try.ntmps49
    go_wp2_with (at_builtin; refine wpList_append_any _ rfl (.tmp 5) (.tmp 6) _ rfl w.heap.size 50 i0 (.agg #[.int .i64 0, .int .i64 0, .int .i64 0, .slice none 0 0, .slice none 0 0]) 5 72 Try.underlying27 hi hz0 hz1 hz2 rfl (by omega) _ _ _ rfl hown w.heap.size (some ad) n c cs rfl hr h1 ?c2 ?c3 ?c4 ?_)
    case c2 => unfold maxLen; omega
    case c3 => omega
    case c4 => simp
    · intro v' w2 hown2 hg2 hat2
      have hb2 : Below w.heap.size w w2 := ((Below.refl _ _).alloc (Nat.le_refl _) _).grown hg2 (by simp) (fun g hg => (hown.lt g hg).1)
      clear hg2 hat2
      go_wp2
      go_ret
      exact ⟨_, rfl, hown2, hb2⟩


theorem nds_one (l : List Nd) : ∀ u ∈ ndCells l, u.oneCell' = true := by
  intro u hu
  obtain ⟨p, _, hp⟩ := List.mem_flatMap.1 hu
  simp only [Nd.cells, List.mem_cons, List.not_mem_nil, or_false] at hp
  rcases hp with rfl | rfl | rfl <;> rfl
theorem bools_one (l : List Bool) : ∀ u ∈ boolsV l, u.oneCell' = true := by
  intro u hu
  obtain ⟨p, _, rfl⟩ := List.mem_map.1 hu
  rfl
theorem ints_one (l : List Int) : ∀ u ∈ intsV l, u.oneCell' = true := by
  intro u hu
  obtain ⟨p, _, rfl⟩ := List.mem_map.1 hu
  rfl
theorem grs_one (l : List Gr) : ∀ u ∈ grsV l, u.oneCell' = true := by
  intro u hu
  obtain ⟨p, _, hp⟩ := List.mem_flatMap.1 hu
  simp only [Gr.cells, List.mem_cons, List.not_mem_nil, or_false] at hp
  rcases hp with rfl | rfl <;> rfl
theorem mss_one (l : List MsM) : ∀ u ∈ mssV l, u.oneCell' = true := by
  intro u hu
  obtain ⟨p, _, hp⟩ := List.mem_flatMap.1 hu
  simp only [MsM.cells, List.mem_cons, List.not_mem_nil, or_false] at hp
  rcases hp with rfl | rfl | rfl | rfl | rfl <;> rfl
theorem ms_put {l : List MsM} {k : Nat} {m : MsM} {q : PtM} (hm : l[k]? = some m) : ((mssV l).set (k * 5 + 3) (.slice q.fa q.frs.length q.fc)).set (k * 5 + 4) (.slice q.da q.dfs.length q.dc) = mssV (l.set k { m with p := q }) := by
  induction l generalizing k with
  | nil => simp at hm
  | cons a r ih =>
    cases k with
    | zero =>
      simp at hm
      subst hm
      simp [mssV, MsM.cells]
    | succ k =>
      have := ih (k := k) (by simpa using hm)
      rw [show (k + 1) * 5 + 3 = (k * 5 + 3) + 1 + 1 + 1 + 1 + 1 by omega, show (k + 1) * 5 + 4 = (k * 5 + 4) + 1 + 1 + 1 + 1 + 1 by omega]
      simp only [mssV, List.flatMap_cons, MsM.cells, List.set_cons_succ, List.cons_append, List.nil_append] at this ⊢
      rw [this]
theorem own_cur' {w : World} {base size n g c : Nat} {t : TypeId} {xs : List Value} (h : w.ownsRow base t size (.slice (some ⟨g, 0, none⟩) n c) n xs) : ∃ cur, Blk w g t cur := by
  rcases h with ⟨_, ⟨h0, _⟩ | ⟨g', cap', cur, e, _, hgb, _⟩⟩
  · cases h0
  · injection e with e _ _
    injection e with e
    injection e with e1 _
    subst e1
    exact ⟨cur, hgb⟩

def CopyFIs (w : World) (f : FrM) (e : Ending) (w' : World) : Prop := ∃ f' : FrM, e = .returned (.agg #[.slice f'.pa f'.ps.length f'.pc, .slice f'.la f'.pl.length f'.lc, .int .i64 f'.now, .slice f'.da f'.dn.length f'.dc, .slice f'.ha f'.hv.length f'.hc, .slice f'.ga f'.gs.length f'.gc, .slice f'.wa f'.wk.length f'.wc, .slice f'.na f'.nt.length f'.nc]) ∧ f'.Own w' w.heap.size ∧ f'.er = f.er ∧ Below w.heap.size w w'
theorem FrM.Own.put8 {w : World} {base g : Nat} {f' : FrM} (h : f'.Own w base) {cs : Array Value} (hb : Blk w g 29 cs) (f : FrM) : f'.Own ((((((((w.setCell ⟨g, 0, none⟩ (.slice f.pa f.ps.length f.pc)).setCell ⟨g, 1, none⟩ (.slice f.la f.pl.length f.lc)).setCell ⟨g, 2, none⟩ (.int .i64 f.now)).setCell ⟨g, 3, none⟩ (.slice f.da f.dn.length f.dc)).setCell ⟨g, 4, none⟩ (.slice f.ha f.hv.length f.hc)).setCell ⟨g, 5, none⟩ (.slice f.ga f.gs.length f.gc)).setCell ⟨g, 6, none⟩ (.slice f.wa f.wk.length f.wc)).setCell ⟨g, 7, none⟩ (.slice f.na f.nt.length f.nc)) base := by
  refine FrM.Own.box (cs := ((((((cs.setIfInBounds 0 (.slice f.pa f.ps.length f.pc)).setIfInBounds 1 (.slice f.la f.pl.length f.lc)).setIfInBounds 2 (.int .i64 f.now)).setIfInBounds 3 (.slice f.da f.dn.length f.dc)).setIfInBounds 4 (.slice f.ha f.hv.length f.hc)).setIfInBounds 5 (.slice f.ga f.gs.length f.gc)).setIfInBounds 6 (.slice f.wa f.wk.length f.wc)) ?_ ((((((hb.set_ 0 _).set_ 1 _).set_ 2 _).set_ 3 _).set_ 4 _).set_ 5 _ |>.set_ 6 _) _
  refine FrM.Own.box ?_ (((((hb.set_ 0 _).set_ 1 _).set_ 2 _).set_ 3 _).set_ 4 _ |>.set_ 5 _) _
  refine FrM.Own.box ?_ ((((hb.set_ 0 _).set_ 1 _).set_ 2 _).set_ 3 _ |>.set_ 4 _) _
  refine FrM.Own.box ?_ (((hb.set_ 0 _).set_ 1 _).set_ 2 _ |>.set_ 3 _) _
  refine FrM.Own.box ?_ ((hb.set_ 0 _).set_ 1 _ |>.set_ 2 _) _
  refine FrM.Own.box ?_ (hb.set_ 0 _ |>.set_ 1 _) _
  refine FrM.Own.box ?_ (hb.set_ 0 _) _
  exact h.box hb _
theorem Blk.put8 {w : World} {g : Nat} {t : TypeId} {a0 a1 a2 a3 a4 a5 a6 a7 : Value} (hb : Blk w g t #[a0, a1, a2, a3, a4, a5, a6, a7]) (f : FrM) : Blk ((((((((w.setCell ⟨g, 0, none⟩ (.slice f.pa f.ps.length f.pc)).setCell ⟨g, 1, none⟩ (.slice f.la f.pl.length f.lc)).setCell ⟨g, 2, none⟩ (.int .i64 f.now)).setCell ⟨g, 3, none⟩ (.slice f.da f.dn.length f.dc)).setCell ⟨g, 4, none⟩ (.slice f.ha f.hv.length f.hc)).setCell ⟨g, 5, none⟩ (.slice f.ga f.gs.length f.gc)).setCell ⟨g, 6, none⟩ (.slice f.wa f.wk.length f.wc)).setCell ⟨g, 7, none⟩ (.slice f.na f.nt.length f.nc)) g t #[.slice f.pa f.ps.length f.pc, .slice f.la f.pl.length f.lc, .int .i64 f.now, .slice f.da f.dn.length f.dc, .slice f.ha f.hv.length f.hc, .slice f.ga f.gs.length f.gc, .slice f.wa f.wk.length f.wc, .slice f.na f.nt.length f.nc] := by
  have := (((((((hb.set_ 0 (.slice f.pa f.ps.length f.pc)).set_ 1 (.slice f.la f.pl.length f.lc)).set_ 2 (.int .i64 f.now)).set_ 3 (.slice f.da f.dn.length f.dc)).set_ 4 (.slice f.ha f.hv.length f.hc)).set_ 5 (.slice f.ga f.gs.length f.gc)).set_ 6 (.slice f.wa f.wk.length f.wc)).set_ 7 (.slice f.na f.nt.length f.nc)
  simpa only [List.setIfInBounds_toArray, List.set_cons_zero, List.set_cons_succ] using this
theorem below_put8 {a w : World} {B g : Nat} (h : Below B a w) (hg : B ≤ g) (f : FrM) : Below B a ((((((((w.setCell ⟨g, 0, none⟩ (.slice f.pa f.ps.length f.pc)).setCell ⟨g, 1, none⟩ (.slice f.la f.pl.length f.lc)).setCell ⟨g, 2, none⟩ (.int .i64 f.now)).setCell ⟨g, 3, none⟩ (.slice f.da f.dn.length f.dc)).setCell ⟨g, 4, none⟩ (.slice f.ha f.hv.length f.hc)).setCell ⟨g, 5, none⟩ (.slice f.ga f.gs.length f.gc)).setCell ⟨g, 6, none⟩ (.slice f.wa f.wk.length f.wc)).setCell ⟨g, 7, none⟩ (.slice f.na f.nt.length f.nc)) :=
  (((((((h.setCell (p := ⟨g, 0, none⟩) hg _).setCell (p := ⟨g, 1, none⟩) hg _).setCell (p := ⟨g, 2, none⟩) hg _).setCell (p := ⟨g, 3, none⟩) hg _).setCell (p := ⟨g, 4, none⟩) hg _).setCell (p := ⟨g, 5, none⟩) hg _).setCell (p := ⟨g, 6, none⟩) hg _).setCell (p := ⟨g, 7, none⟩) hg _

/-- Behind the parts' copies. -/
structure CpCut (w wx : World) (gF gR : Nat) (f : FrM) (A1 : Option Addr) (c1 : Nat) (ps1 : List PtM) (A2 : Option Addr) (c2 : Nat) (hv1 : List PtM) : Prop where
  kF : Blk wx gF 29 #[.slice A1 ps1.length c1, .slice f.la f.pl.length f.lc, .int .i64 f.now, .slice f.da f.dn.length f.dc, .slice A2 hv1.length c2, .slice f.ga f.gs.length f.gc, .slice f.wa f.wk.length f.wc, .slice f.na f.nt.length f.nc]
  kR : Blk wx gR 29 #[.slice none 0 0, .slice none 0 0, .int .i64 0, .slice none 0 0, .slice none 0 0, .slice none 0 0, .slice none 0 0, .slice none 0 0]
  ps : wx.ownsRow w.heap.size 44 2 (.slice A1 ps1.length c1) ps1.length (ptsV ps1)
  pse : ∀ p ∈ ps1, p.Own wx w.heap.size
  hv : wx.ownsRow w.heap.size 44 2 (.slice A2 hv1.length c2) hv1.length (ptsV hv1)
  hve : ∀ p ∈ hv1, p.Own wx w.heap.size
  e1 : ps1.map PtM.er = f.ps.map PtM.er
  e2 : hv1.map PtM.er = f.hv.map PtM.er
  apart : (Value.slice A1 ps1.length c1).ownBlock = none ∨ (Value.slice A1 ps1.length c1).ownBlock ≠ (Value.slice A2 hv1.length c2).ownBlock
  hB : Below w.heap.size w wx
theorem copy_cut {w W wv w1 w2 : World} {gF gR : Nat} {f : FrM} {A1 A2 : Option Addr} {c1 c2 : Nat} {ps1 hv1 : List PtM} (hB : Below w.heap.size w W) (hgF : w.heap.size ≤ gF) (kF : Blk w2 gF 29 #[.slice f.pa f.ps.length f.pc, .slice f.la f.pl.length f.lc, .int .i64 f.now, .slice f.da f.dn.length f.dc, .slice f.ha f.hv.length f.hc, .slice f.ga f.gs.length f.gc, .slice f.wa f.wk.length f.wc, .slice f.na f.nt.length f.nc]) (kR : Blk w2 gR 29 #[.slice none 0 0, .slice none 0 0, .int .i64 0, .slice none 0 0, .slice none 0 0, .slice none 0 0, .slice none 0 0, .slice none 0 0])
    (hb : Below W.heap.size W wv) (hb1 : Below W.heap.size W w1) (hb2 : Below W.heap.size W w2) (ev1 : EV wv w1 wv.heap.size (.slice A1 ps1.length c1) ps1) (ev2 : EV w1 w2 w1.heap.size (.slice A2 hv1.length c2) hv1) (ee1 : ps1.map PtM.er = f.ps.map PtM.er) (ee2 : hv1.map PtM.er = f.hv.map PtM.er) (hne : gF ≠ gR) :
    CpCut w ((w2.setCell ⟨gF, 0, none⟩ (.slice A1 ps1.length c1)).setCell ⟨gF, 4, none⟩ (.slice A2 hv1.length c2)) gF gR f A1 c1 ps1 A2 c2 hv1 := by
  have z1 : w.heap.size ≤ wv.heap.size := Nat.le_trans hB.size hb.size
  have z2 : w.heap.size ≤ w1.heap.size := Nat.le_trans hB.size hb1.size
  have p1 := (own_all ev1.hz ev2.hB).mono z1
  have p2 := ev2.hz.mono z2
  have kF0 := kF.set_ 0 (.slice A1 ps1.length c1)
  have kZ := kF0.set_ 4 (.slice A2 hv1.length c2)
  simp only [List.setIfInBounds_toArray, List.set_cons_zero, List.set_cons_succ] at kZ
  refine ⟨kZ, (kR.far (p := ⟨gF, 0, none⟩) (Ne.symm hne) _).far (p := ⟨gF, 4, none⟩) (Ne.symm hne) _, ?_, fun p hp => ?_, ?_, fun p hp => ?_, ee1, ee2, ?_, ?_⟩
  · exact own_setCell (own_setCell p1 (own_blk_ne p1 kF (by decide)) _) (own_blk_ne p1 kF (by decide)) _
  · exact ((((ev1.each p hp).all ev2.hB).mono z1).blk kF (by decide) (by decide) (by decide) (by decide) _).blk kF0 (by decide) (by decide) (by decide) (by decide) _
  · exact own_setCell (own_setCell p2 (own_blk_ne p2 kF (by decide)) _) (own_blk_ne p2 kF (by decide)) _
  · exact (((ev2.each p hp).mono z2).blk kF (by decide) (by decide) (by decide) (by decide) _).blk kF0 (by decide) (by decide) (by decide) (by decide) _
  · rcases h1 : (Value.slice A1 ps1.length c1).ownBlock with _ | g
    · exact .inl rfl
    · refine .inr fun h2 => ?_
      have a := (ev1.hz.lt g h1).2
      have b := (ev2.hz.lt g h2.symm).1
      omega
  · exact ((hB.trans (hb2.mono hB.size)).setCell (p := ⟨gF, 0, none⟩) hgF _).setCell (p := ⟨gF, 4, none⟩) hgF _

set_option maxHeartbeats 20000000 in
theorem copyFarm_any (f : FrM) (w : World) (h : f.At w w.heap.size) (hF : f.er.Fine) :
    Calls Try.prog 22 #[.agg #[.slice f.pa f.ps.length f.pc, .slice f.la f.pl.length f.lc, .int .i64 f.now, .slice f.da f.dn.length f.dc, .slice f.ha f.hv.length f.hc, .slice f.ga f.gs.length f.gc, .slice f.wa f.wk.length f.wc, .slice f.na f.nt.length f.nc]] w (CopyFIs w f) := by
  unfold CopyFIs
  have n1 : f.ps.length ≤ 12 := by have := (ckPlan_zero hF.pl).2.1; simp only [FrM.er, List.length_map] at this; omega
  have n2 : f.pl.length ≤ 23 := (ckPlan_zero hF.pl).2.2.1
  have n3 : f.dn.length ≤ 23 := by have : f.dn.length = f.pl.length := hF.ld; omega
  have n4 : f.hv.length ≤ 23 := by have := hF.lh; simp only [FrM.er, List.length_map] at this; omega
  have n5 : f.gs.length ≤ 23 := by have : f.gs.length = f.pl.length := hF.lg; omega
  have n6 : f.wk.length ≤ 4 := hF.w4
  have n7 : f.nt.length ≤ 20 := by have := hF.ln; simp only [FrM.er, List.length_map] at this; omega
  have SP := Lib.hid (fun (p : PtM) (hp : p ∈ f.ps) => small_of (hF.ps p.er (List.mem_map_of_mem hp)))
  have SH := Lib.hid (fun (p : PtM) (hp : p ∈ f.hv) => small_of (hF.hv p.er (List.mem_map_of_mem hp)))
  have SN := Lib.hid (fun (m : MsM) (hm : m ∈ f.nt) => small_of (hF.ms m.er (List.mem_map_of_mem hm)).2.2.2.2.2)
  clear hF
  have h0 := h
  have h00 := h
  have kF := (Blk.new w 29 #[.slice f.pa f.ps.length f.pc, .slice f.la f.pl.length f.lc, .int .i64 f.now, .slice f.da f.dn.length f.dc, .slice f.ha f.hv.length f.hc, .slice f.ga f.gs.length f.gc, .slice f.wa f.wk.length f.wc, .slice f.na f.nt.length f.nc]).alloc (.cells #[.slice none 0 0, .slice none 0 0, .int .i64 0, .slice none 0 0, .slice none 0 0, .slice none 0 0, .slice none 0 0, .slice none 0 0] 29)
  have kR := Blk.new' (w.alloc (.cells #[.slice f.pa f.ps.length f.pc, .slice f.la f.pl.length f.lc, .int .i64 f.now, .slice f.da f.dn.length f.dc, .slice f.ha f.hv.length f.hc, .slice f.ga f.gs.length f.gc, .slice f.wa f.wk.length f.wc, .slice f.na f.nt.length f.nc] 29)) 29 #[.slice none 0 0, .slice none 0 0, .int .i64 0, .slice none 0 0, .slice none 0 0, .slice none 0 0, .slice none 0 0, .slice none 0 0] (g := w.heap.size + 1) (by simp)
  have hB : Below w.heap.size w ((w.alloc (.cells #[.slice f.pa f.ps.length f.pc, .slice f.la f.pl.length f.lc, .int .i64 f.now, .slice f.da f.dn.length f.dc, .slice f.ha f.hv.length f.hc, .slice f.ga f.gs.length f.gc, .slice f.wa f.wk.length f.wc, .slice f.na f.nt.length f.nc] 29)).alloc (.cells #[.slice none 0 0, .slice none 0 0, .int .i64 0, .slice none 0 0, .slice none 0 0, .slice none 0 0, .slice none 0 0, .slice none 0 0] 29)) := by (repeat' (first | exact Below.refl _ _ | assumption | refine Below.setCell ?_ (by first | omega | exact Below.size (by assumption) | (simp; done) | (simp; omega)) _ | refine Below.alloc ?_ (by first | omega | exact Below.size (by assumption) | (simp; done) | (simp; omega)) _ | refine Below.drew ?_ | refine below_drewN ?_ _))
  replace h := h.all hB
  go_enter Try.func22, Try.ntmps22
  go_upto_region 2 with (fail)
  obtain ⟨W, hW⟩ : ∃ W', W' = (w.alloc (.cells #[.slice f.pa f.ps.length f.pc, .slice f.la f.pl.length f.lc, .int .i64 f.now, .slice f.da f.dn.length f.dc, .slice f.ha f.hv.length f.hc, .slice f.ga f.gs.length f.gc, .slice f.wa f.wk.length f.wc, .slice f.na f.nt.length f.nc] 29)).alloc (.cells #[.slice none 0 0, .slice none 0 0, .int .i64 0, .slice none 0 0, .slice none 0 0, .slice none 0 0, .slice none 0 0, .slice none 0 0] 29) := ⟨_, rfl⟩
  obtain ⟨gR, hgR⟩ : ∃ g, g = w.heap.size + 1 := ⟨_, rfl⟩
  obtain ⟨gF, hgF⟩ : ∃ g, g = w.heap.size := ⟨_, rfl⟩
  have hgR1 : w.heap.size ≤ gR := by omega
  have hgF1 : w.heap.size ≤ gF := by omega
  have hne : gF ≠ gR := by omega
  rw [← hgR] at kR ⊢
  rw [← hgF] at kF ⊢
  rw [← hW] at kF kR h hB ⊢
  clear hW hgF hgR
  go_cut [7] (fun _ wx => ∃ A1 c1 ps1 A2 c2 hv1, CpCut w wx gF gR f A1 c1 ps1 A2 c2 hv1)
  case first =>
    have hS : Hid (∀ w', Below W.heap.size W w' → (w'.cell? ⟨gF, 0, none⟩ = some (.slice f.pa f.ps.length f.pc) ∧ w'.cell? ⟨gF, 4, none⟩ = some (.slice f.ha f.hv.length f.hc))) := fun w' h => ⟨(kF.all h).cell 0, (kF.all h).cell 4⟩
    have hb := (Below.refl W.heap.size W).drew
    refine wp_region_late (S := (fun w' => w'.cell? ⟨gF, 0, none⟩ = some (.slice f.pa f.ps.length f.pc) ∧ w'.cell? ⟨gF, 4, none⟩ = some (.slice f.ha f.hv.length f.hc))) [9, 10, 11] (by kernel_rfl) (hS.out _ hb) (fun hHeld => ?_)
    obtain ⟨wv, hwv⟩ : ∃ x, x = W.drew := ⟨_, rfl⟩
    rw [← hwv] at hb hHeld ⊢
    clear hwv
    replace h := h.all hb
    have C1 := Lib.hid (copyParts_any f.pa f.pc f.ps wv h.ps (by omega) SP.out)
    (refine wpAnyL_take (i := 0) (oi := { dst := some 6, op := Op.move (Operand.tmp 3), type := 101, pos := "farm.go:84", after := #[], guard := none }) (v := ?_) rfl (by kernel_rfl) (by kernel_rfl) (by kernel_rfl) (fun _ _ _ h => h) (Or.inl ⟨by rfl, ?_⟩) (by assumption) (by kernel_rfl) (by rfl) ?_; rotate_left; (focus (intro w hSw; (try dsimp only at hSw); go_simp; (try with_reducible rfl))); (try simp only [Act.put, List.setIfInBounds_toArray, List.set_cons_zero, List.set_cons_succ]))
    (refine wpAnyL_take (i := 1) (oi := { dst := some 7, op := Op.fieldAddr 29 (Operand.tmp 1) 0, type := 0, pos := "farm.go:84", after := #[], guard := none }) (v := ?_) rfl (by kernel_rfl) (by kernel_rfl) (by kernel_rfl) (fun _ _ _ h => h) (Or.inl ⟨by rfl, ?_⟩) (by assumption) (by kernel_rfl) (by rfl) ?_; rotate_left; (focus (intro w hSw; (try dsimp only at hSw); go_simp; (try with_reducible rfl))); (try simp only [Act.put, List.setIfInBounds_toArray, List.set_cons_zero, List.set_cons_succ]))
    (refine wpAnyL_take (i := 2) (oi := { dst := some 8, op := Op.load 22 (Operand.tmp 7), type := 22, pos := "farm.go:84", after := #[{ on := 1, ground := Ground.data }], guard := none }) (v := ?_) rfl (by kernel_rfl) (by kernel_rfl) (by kernel_rfl) (fun _ _ _ h => h) (Or.inl ⟨by rfl, ?_⟩) (by assumption) (by kernel_rfl) (by rfl) ?_; rotate_left; (focus (intro w hSw; (try dsimp only at hSw); go_simp; (try with_reducible rfl))); (try simp only [Act.put, List.setIfInBounds_toArray, List.set_cons_zero, List.set_cons_succ]))
    (refine wpAnyL_take (i := 5) (oi := { dst := some 11, op := Op.fieldAddr 29 (Operand.tmp 1) 4, type := 0, pos := "farm.go:84", after := #[], guard := none }) (v := ?_) rfl (by kernel_rfl) (by kernel_rfl) (by kernel_rfl) (fun _ _ _ h => h) (Or.inl ⟨by rfl, ?_⟩) (by assumption) (by kernel_rfl) (by rfl) ?_; rotate_left; (focus (intro w hSw; (try dsimp only at hSw); go_simp; (try with_reducible rfl))); (try simp only [Act.put, List.setIfInBounds_toArray, List.set_cons_zero, List.set_cons_succ]))
    (refine wpAnyL_take (i := 6) (oi := { dst := some 12, op := Op.load 22 (Operand.tmp 11), type := 22, pos := "farm.go:84", after := #[{ on := 5, ground := Ground.data }], guard := none }) (v := ?_) rfl (by kernel_rfl) (by kernel_rfl) (by kernel_rfl) (fun _ _ _ h => h) (Or.inl ⟨by rfl, ?_⟩) (by assumption) (by kernel_rfl) (by rfl) ?_; rotate_left; (focus (intro w hSw; (try dsimp only at hSw); go_simp; (try with_reducible rfl))); (try simp only [Act.put, List.setIfInBounds_toArray, List.set_cons_zero, List.set_cons_succ]))
    (refine wpAnyL_ready (rs := [3, 4]) (by kernel_rfl) (by simp) ?_; refine List.forall_mem_cons.2 ⟨?_, List.forall_mem_cons.2 ⟨?_, fun _ h => by cases h⟩⟩)
    · (refine stepL (o := { dst := some 9, op := Op.call { callee := Callee.value (Operand.tmp 6), args := #[Operand.tmp 8], argTypes := #[22] }, type := 22, pos := "farm.go:84", after := #[{ on := 0, ground := Ground.data }, { on := 2, ground := Ground.data }], guard := none }) rfl (fun K hK => ?_); (try go_simp); (go_at_call 44; refine C1.out.mono ?_; rintro e w1 ⟨v1, ps1, rfl, ev1, ee1⟩; obtain ⟨A1, c1, rfl, _, _⟩ := own_form ev1.hz; have hb1 := hb.trans (ev1.hB.mono hb.size); replace h := h.all ev1.hB); go_wp2_with fail; refine hK.out _ _ (hS.out _ hb1) (fun hHeld => ?_); (clear hK K; (try simp only [Act.put, List.setIfInBounds_toArray, List.set_cons_zero, List.set_cons_succ])))
      (refine wpAnyL_take (i := 8) (oi := { dst := some 14, op := Op.fieldAddr 29 (Operand.tmp 1) 0, type := 0, pos := "farm.go:84", after := #[{ on := 0, ground := Ground.phase }, { on := 1, ground := Ground.phase }, { on := 2, ground := Ground.phase }, { on := 3, ground := Ground.phase }, { on := 4, ground := Ground.textOnly Departure.lateStores }, { on := 5, ground := Ground.phase }, { on := 6, ground := Ground.phase }, { on := 7, ground := Ground.textOnly Departure.lateStoresUnsure }], guard := none }) (v := ?_) rfl (by kernel_rfl) (by kernel_rfl) (by kernel_rfl) (fun _ _ _ h => h) (Or.inl ⟨by rfl, ?_⟩) (by assumption) (by kernel_rfl) (by rfl) ?_; rotate_left; (focus (intro w hSw; (try dsimp only at hSw); go_simp; (try with_reducible rfl))); (try simp only [Act.put, List.setIfInBounds_toArray, List.set_cons_zero, List.set_cons_succ]))
      have C2 := Lib.hid (copyParts_any f.ha f.hc f.hv w1 h.hv (by omega) SH.out)
      (refine wpAnyL_ready (rs := [4]) (by kernel_rfl) (by simp) ?_; refine List.forall_mem_cons.2 ⟨?_, fun _ h => by cases h⟩)
      (refine stepL (o := { dst := some 10, op := Op.move (Operand.tmp 3), type := 101, pos := "farm.go:84", after := #[], guard := none }) rfl (fun K hK => ?_); go_simp; refine hK.out _ _ (hS.out _ hb1) (fun hHeld => ?_); (clear hK K; (try simp only [Act.put, List.setIfInBounds_toArray, List.set_cons_zero, List.set_cons_succ])))
      (refine wpAnyL_ready (rs := [7]) (by kernel_rfl) (by simp) ?_; refine List.forall_mem_cons.2 ⟨?_, fun _ h => by cases h⟩)
      (refine stepL (o := { dst := some 13, op := Op.call { callee := Callee.value (Operand.tmp 10), args := #[Operand.tmp 12], argTypes := #[22] }, type := 22, pos := "farm.go:84", after := #[{ on := 4, ground := Ground.data }, { on := 6, ground := Ground.data }, { on := 3, ground := Ground.chain }], guard := none }) rfl (fun K hK => ?_); (try go_simp); (go_at_call 44; refine C2.out.mono ?_; rintro e w2 ⟨v2, hv1, rfl, ev2, ee2⟩; obtain ⟨A2, c2, rfl, _, _⟩ := own_form ev2.hz; have hb2 := hb1.trans (ev2.hB.mono hb1.size); replace h := h.all ev2.hB); go_wp2_with fail; refine hK.out _ _ (hS.out _ hb2) (fun hHeld => ?_); (clear hK K; (try simp only [Act.put, List.setIfInBounds_toArray, List.set_cons_zero, List.set_cons_succ])))
      (clear C1 hHeld; have q0 := (kF.all hb2).cell 0; have q4 := (kF.all hb2).cell 4; have z0 := (kF.all hb2).frozen 0; have z4 := (kF.all hb2).frozen 4; (refine wpAnyL_ready (rs := [9]) (by kernel_rfl) (by simp) ?_; refine List.forall_mem_cons.2 ⟨stepLate (o := { dst := none, op := Op.store 22 (Operand.tmp 14) (Operand.tmp 9), type := 0, pos := "farm.go:84", after := #[{ on := 8, ground := Ground.data }, { on := 3, ground := Ground.data }, { on := 7, ground := Ground.chain }, { on := 0, ground := Ground.phase }, { on := 1, ground := Ground.phase }, { on := 2, ground := Ground.phase }, { on := 3, ground := Ground.phase }, { on := 4, ground := Ground.textOnly Departure.lateStores }, { on := 5, ground := Ground.phase }, { on := 6, ground := Ground.phase }, { on := 7, ground := Ground.textOnly Departure.lateStoresUnsure }], guard := none }) rfl (by rfl) (fun K hK => ?_), fun _ h => by cases h⟩; go_simp; refine hK.out _ _ ?_; (clear hK K; (try simp only [Act.put, List.setIfInBounds_toArray, List.set_cons_zero, List.set_cons_succ]))); (refine wpAnyL_ready (rs := [10]) (by kernel_rfl) (by simp) ?_; refine List.forall_mem_cons.2 ⟨stepLate (o := { dst := some 15, op := Op.fieldAddr 29 (Operand.tmp 1) 4, type := 0, pos := "farm.go:84", after := #[{ on := 0, ground := Ground.phase }, { on := 1, ground := Ground.phase }, { on := 2, ground := Ground.phase }, { on := 3, ground := Ground.phase }, { on := 4, ground := Ground.phase }, { on := 5, ground := Ground.phase }, { on := 6, ground := Ground.phase }, { on := 7, ground := Ground.phase }, { on := 8, ground := Ground.phase }, { on := 9, ground := Ground.phase }], guard := none }) rfl (by rfl) (fun K hK => ?_), fun _ h => by cases h⟩; go_simp; refine hK.out _ _ ?_; (clear hK K; (try simp only [Act.put, List.setIfInBounds_toArray, List.set_cons_zero, List.set_cons_succ]))); (refine wpAnyL_ready (rs := [11]) (by kernel_rfl) (by simp) ?_; refine List.forall_mem_cons.2 ⟨stepLate (o := { dst := none, op := Op.store 22 (Operand.tmp 15) (Operand.tmp 13), type := 0, pos := "farm.go:84", after := #[{ on := 10, ground := Ground.data }, { on := 7, ground := Ground.data }, { on := 9, ground := Ground.chain }, { on := 0, ground := Ground.phase }, { on := 1, ground := Ground.phase }, { on := 2, ground := Ground.phase }, { on := 3, ground := Ground.phase }, { on := 4, ground := Ground.phase }, { on := 5, ground := Ground.phase }, { on := 6, ground := Ground.phase }, { on := 7, ground := Ground.phase }, { on := 8, ground := Ground.phase }, { on := 9, ground := Ground.phase }], guard := none }) rfl (by rfl) (fun K hK => ?_), fun _ h => by cases h⟩; go_simp; refine hK.out _ _ ?_; (clear hK K; (try simp only [Act.put, List.setIfInBounds_toArray, List.set_cons_zero, List.set_cons_succ]))); refine wpAnyL_done (by kernel_rfl) ?_ _; go_wp2; go_meet; exact ⟨A1, c1, ps1, A2, c2, hv1, copy_cut hB hgF1 (kF.all hb2) (kR.all hb2) hb hb1 hb2 ev1 ev2 ee1 ee2 hne⟩)
    · (refine stepL (o := { dst := some 10, op := Op.move (Operand.tmp 3), type := 101, pos := "farm.go:84", after := #[], guard := none }) rfl (fun K hK => ?_); go_simp; refine hK.out _ _ (hS.out _ hb) (fun hHeld => ?_); (clear hK K; (try simp only [Act.put, List.setIfInBounds_toArray, List.set_cons_zero, List.set_cons_succ])))
      (refine wpAnyL_ready (rs := [3]) (by kernel_rfl) (by simp) ?_; refine List.forall_mem_cons.2 ⟨?_, fun _ h => by cases h⟩)
      (refine stepL (o := { dst := some 9, op := Op.call { callee := Callee.value (Operand.tmp 6), args := #[Operand.tmp 8], argTypes := #[22] }, type := 22, pos := "farm.go:84", after := #[{ on := 0, ground := Ground.data }, { on := 2, ground := Ground.data }], guard := none }) rfl (fun K hK => ?_); (try go_simp); (go_at_call 44; refine C1.out.mono ?_; rintro e w1 ⟨v1, ps1, rfl, ev1, ee1⟩; obtain ⟨A1, c1, rfl, _, _⟩ := own_form ev1.hz; have hb1 := hb.trans (ev1.hB.mono hb.size); replace h := h.all ev1.hB); go_wp2_with fail; refine hK.out _ _ (hS.out _ hb1) (fun hHeld => ?_); (clear hK K; (try simp only [Act.put, List.setIfInBounds_toArray, List.set_cons_zero, List.set_cons_succ])))
      (refine wpAnyL_take (i := 8) (oi := { dst := some 14, op := Op.fieldAddr 29 (Operand.tmp 1) 0, type := 0, pos := "farm.go:84", after := #[{ on := 0, ground := Ground.phase }, { on := 1, ground := Ground.phase }, { on := 2, ground := Ground.phase }, { on := 3, ground := Ground.phase }, { on := 4, ground := Ground.textOnly Departure.lateStores }, { on := 5, ground := Ground.phase }, { on := 6, ground := Ground.phase }, { on := 7, ground := Ground.textOnly Departure.lateStoresUnsure }], guard := none }) (v := ?_) rfl (by kernel_rfl) (by kernel_rfl) (by kernel_rfl) (fun _ _ _ h => h) (Or.inl ⟨by rfl, ?_⟩) (by assumption) (by kernel_rfl) (by rfl) ?_; rotate_left; (focus (intro w hSw; (try dsimp only at hSw); go_simp; (try with_reducible rfl))); (try simp only [Act.put, List.setIfInBounds_toArray, List.set_cons_zero, List.set_cons_succ]))
      have C2 := Lib.hid (copyParts_any f.ha f.hc f.hv w1 h.hv (by omega) SH.out)
      (refine wpAnyL_ready (rs := [7]) (by kernel_rfl) (by simp) ?_; refine List.forall_mem_cons.2 ⟨?_, fun _ h => by cases h⟩)
      (refine stepL (o := { dst := some 13, op := Op.call { callee := Callee.value (Operand.tmp 10), args := #[Operand.tmp 12], argTypes := #[22] }, type := 22, pos := "farm.go:84", after := #[{ on := 4, ground := Ground.data }, { on := 6, ground := Ground.data }, { on := 3, ground := Ground.chain }], guard := none }) rfl (fun K hK => ?_); (try go_simp); (go_at_call 44; refine C2.out.mono ?_; rintro e w2 ⟨v2, hv1, rfl, ev2, ee2⟩; obtain ⟨A2, c2, rfl, _, _⟩ := own_form ev2.hz; have hb2 := hb1.trans (ev2.hB.mono hb1.size); replace h := h.all ev2.hB); go_wp2_with fail; refine hK.out _ _ (hS.out _ hb2) (fun hHeld => ?_); (clear hK K; (try simp only [Act.put, List.setIfInBounds_toArray, List.set_cons_zero, List.set_cons_succ])))
      (clear C1 hHeld; have q0 := (kF.all hb2).cell 0; have q4 := (kF.all hb2).cell 4; have z0 := (kF.all hb2).frozen 0; have z4 := (kF.all hb2).frozen 4; (refine wpAnyL_ready (rs := [9]) (by kernel_rfl) (by simp) ?_; refine List.forall_mem_cons.2 ⟨stepLate (o := { dst := none, op := Op.store 22 (Operand.tmp 14) (Operand.tmp 9), type := 0, pos := "farm.go:84", after := #[{ on := 8, ground := Ground.data }, { on := 3, ground := Ground.data }, { on := 7, ground := Ground.chain }, { on := 0, ground := Ground.phase }, { on := 1, ground := Ground.phase }, { on := 2, ground := Ground.phase }, { on := 3, ground := Ground.phase }, { on := 4, ground := Ground.textOnly Departure.lateStores }, { on := 5, ground := Ground.phase }, { on := 6, ground := Ground.phase }, { on := 7, ground := Ground.textOnly Departure.lateStoresUnsure }], guard := none }) rfl (by rfl) (fun K hK => ?_), fun _ h => by cases h⟩; go_simp; refine hK.out _ _ ?_; (clear hK K; (try simp only [Act.put, List.setIfInBounds_toArray, List.set_cons_zero, List.set_cons_succ]))); (refine wpAnyL_ready (rs := [10]) (by kernel_rfl) (by simp) ?_; refine List.forall_mem_cons.2 ⟨stepLate (o := { dst := some 15, op := Op.fieldAddr 29 (Operand.tmp 1) 4, type := 0, pos := "farm.go:84", after := #[{ on := 0, ground := Ground.phase }, { on := 1, ground := Ground.phase }, { on := 2, ground := Ground.phase }, { on := 3, ground := Ground.phase }, { on := 4, ground := Ground.phase }, { on := 5, ground := Ground.phase }, { on := 6, ground := Ground.phase }, { on := 7, ground := Ground.phase }, { on := 8, ground := Ground.phase }, { on := 9, ground := Ground.phase }], guard := none }) rfl (by rfl) (fun K hK => ?_), fun _ h => by cases h⟩; go_simp; refine hK.out _ _ ?_; (clear hK K; (try simp only [Act.put, List.setIfInBounds_toArray, List.set_cons_zero, List.set_cons_succ]))); (refine wpAnyL_ready (rs := [11]) (by kernel_rfl) (by simp) ?_; refine List.forall_mem_cons.2 ⟨stepLate (o := { dst := none, op := Op.store 22 (Operand.tmp 15) (Operand.tmp 13), type := 0, pos := "farm.go:84", after := #[{ on := 10, ground := Ground.data }, { on := 7, ground := Ground.data }, { on := 9, ground := Ground.chain }, { on := 0, ground := Ground.phase }, { on := 1, ground := Ground.phase }, { on := 2, ground := Ground.phase }, { on := 3, ground := Ground.phase }, { on := 4, ground := Ground.phase }, { on := 5, ground := Ground.phase }, { on := 6, ground := Ground.phase }, { on := 7, ground := Ground.phase }, { on := 8, ground := Ground.phase }, { on := 9, ground := Ground.phase }], guard := none }) rfl (by rfl) (fun K hK => ?_), fun _ h => by cases h⟩; go_simp; refine hK.out _ _ ?_; (clear hK K; (try simp only [Act.put, List.setIfInBounds_toArray, List.set_cons_zero, List.set_cons_succ]))); refine wpAnyL_done (by kernel_rfl) ?_ _; go_wp2; go_meet; exact ⟨A1, c1, ps1, A2, c2, hv1, copy_cut hB hgF1 (kF.all hb2) (kR.all hb2) hb hb1 hb2 ev1 ev2 ee1 ee2 hne⟩)
  case rest =>
    obtain ⟨A1, c1, ps1, A2, c2, hv1, kF, kR, r1, r1e, r2, r2e, e1, e2, hap, hB⟩ := hcut
    replace h := h0.keep hB hB.size
    clear h0
    have hS : Hid (∀ w', Below wc.heap.size wc w' → (w'.cell? ⟨gF, 1, none⟩ = some (.slice f.la f.pl.length f.lc) ∧ w'.cell? ⟨gF, 3, none⟩ = some (.slice f.da f.dn.length f.dc) ∧ w'.cell? ⟨gF, 5, none⟩ = some (.slice f.ga f.gs.length f.gc) ∧ w'.cell? ⟨gF, 6, none⟩ = some (.slice f.wa f.wk.length f.wc))) :=
      fun w' h => ⟨(kF.all h).cell 1, (kF.all h).cell 3, (kF.all h).cell 5, (kF.all h).cell 6⟩
    have hb := (Below.refl wc.heap.size wc).drew
    go_upto_region 3 with (fail)
    refine wp_region_late (S := (fun w' => w'.cell? ⟨gF, 1, none⟩ = some (.slice f.la f.pl.length f.lc) ∧ w'.cell? ⟨gF, 3, none⟩ = some (.slice f.da f.dn.length f.dc) ∧ w'.cell? ⟨gF, 5, none⟩ = some (.slice f.ga f.gs.length f.gc) ∧ w'.cell? ⟨gF, 6, none⟩ = some (.slice f.wa f.wk.length f.wc)))
      [13, 14, 15, 16, 17, 18, 19] (by kernel_rfl) (hS.out _ hb) (fun hHeld => ?_)
    obtain ⟨wv, hwv⟩ : ∃ x, x = wc.drew := ⟨_, rfl⟩
    rw [← hwv] at hb hHeld ⊢
    clear hwv
    replace h := h.all hb
    (refine wpAnyL_take (i := 0) (oi := { dst := some 16, op := Op.fieldAddr 29 (Operand.tmp 1) 1, type := 0, pos := "farm.go:85", after := #[], guard := none }) (v := ?_) rfl (by kernel_rfl) (by kernel_rfl) (by kernel_rfl) (fun _ _ _ h => h) (Or.inl ⟨by rfl, ?_⟩) (by assumption) (by kernel_rfl) (by rfl) ?_; rotate_left; (focus (intro w hSw; (try dsimp only at hSw); go_simp; (try with_reducible rfl))); (try simp only [Act.put, List.setIfInBounds_toArray, List.set_cons_zero, List.set_cons_succ]))
    (refine wpAnyL_take (i := 1) (oi := { dst := some 17, op := Op.load 23 (Operand.tmp 16), type := 23, pos := "farm.go:85", after := #[{ on := 0, ground := Ground.data }], guard := none }) (v := ?_) rfl (by kernel_rfl) (by kernel_rfl) (by kernel_rfl) (fun _ _ _ h => h) (Or.inl ⟨by rfl, ?_⟩) (by assumption) (by kernel_rfl) (by rfl) ?_; rotate_left; (focus (intro w hSw; (try dsimp only at hSw); go_simp; (try with_reducible rfl))); (try simp only [Act.put, List.setIfInBounds_toArray, List.set_cons_zero, List.set_cons_succ]))
    (refine wpAnyL_take (i := 3) (oi := { dst := some 19, op := Op.fieldAddr 29 (Operand.tmp 1) 3, type := 0, pos := "farm.go:85", after := #[], guard := none }) (v := ?_) rfl (by kernel_rfl) (by kernel_rfl) (by kernel_rfl) (fun _ _ _ h => h) (Or.inl ⟨by rfl, ?_⟩) (by assumption) (by kernel_rfl) (by rfl) ?_; rotate_left; (focus (intro w hSw; (try dsimp only at hSw); go_simp; (try with_reducible rfl))); (try simp only [Act.put, List.setIfInBounds_toArray, List.set_cons_zero, List.set_cons_succ]))
    (refine wpAnyL_take (i := 4) (oi := { dst := some 20, op := Op.load 24 (Operand.tmp 19), type := 24, pos := "farm.go:85", after := #[{ on := 3, ground := Ground.data }], guard := none }) (v := ?_) rfl (by kernel_rfl) (by kernel_rfl) (by kernel_rfl) (fun _ _ _ h => h) (Or.inl ⟨by rfl, ?_⟩) (by assumption) (by kernel_rfl) (by rfl) ?_; rotate_left; (focus (intro w hSw; (try dsimp only at hSw); go_simp; (try with_reducible rfl))); (try simp only [Act.put, List.setIfInBounds_toArray, List.set_cons_zero, List.set_cons_succ]))
    (refine wpAnyL_take (i := 6) (oi := { dst := some 22, op := Op.fieldAddr 29 (Operand.tmp 1) 5, type := 0, pos := "farm.go:85", after := #[], guard := none }) (v := ?_) rfl (by kernel_rfl) (by kernel_rfl) (by kernel_rfl) (fun _ _ _ h => h) (Or.inl ⟨by rfl, ?_⟩) (by assumption) (by kernel_rfl) (by rfl) ?_; rotate_left; (focus (intro w hSw; (try dsimp only at hSw); go_simp; (try with_reducible rfl))); (try simp only [Act.put, List.setIfInBounds_toArray, List.set_cons_zero, List.set_cons_succ]))
    (refine wpAnyL_take (i := 7) (oi := { dst := some 23, op := Op.load 25 (Operand.tmp 22), type := 25, pos := "farm.go:85", after := #[{ on := 6, ground := Ground.data }], guard := none }) (v := ?_) rfl (by kernel_rfl) (by kernel_rfl) (by kernel_rfl) (fun _ _ _ h => h) (Or.inl ⟨by rfl, ?_⟩) (by assumption) (by kernel_rfl) (by rfl) ?_; rotate_left; (focus (intro w hSw; (try dsimp only at hSw); go_simp; (try with_reducible rfl))); (try simp only [Act.put, List.setIfInBounds_toArray, List.set_cons_zero, List.set_cons_succ]))
    (refine wpAnyL_take (i := 9) (oi := { dst := some 25, op := Op.fieldAddr 29 (Operand.tmp 1) 6, type := 0, pos := "farm.go:85", after := #[], guard := none }) (v := ?_) rfl (by kernel_rfl) (by kernel_rfl) (by kernel_rfl) (fun _ _ _ h => h) (Or.inl ⟨by rfl, ?_⟩) (by assumption) (by kernel_rfl) (by rfl) ?_; rotate_left; (focus (intro w hSw; (try dsimp only at hSw); go_simp; (try with_reducible rfl))); (try simp only [Act.put, List.setIfInBounds_toArray, List.set_cons_zero, List.set_cons_succ]))
    (refine wpAnyL_take (i := 10) (oi := { dst := some 26, op := Op.load 26 (Operand.tmp 25), type := 26, pos := "farm.go:85", after := #[{ on := 9, ground := Ground.data }], guard := none }) (v := ?_) rfl (by kernel_rfl) (by kernel_rfl) (by kernel_rfl) (fun _ _ _ h => h) (Or.inl ⟨by rfl, ?_⟩) (by assumption) (by kernel_rfl) (by rfl) ?_; rotate_left; (focus (intro w hSw; (try dsimp only at hSw); go_simp; (try with_reducible rfl))); (try simp only [Act.put, List.setIfInBounds_toArray, List.set_cons_zero, List.set_cons_succ]))
    have D1 := Lib.hid (cloneNodesF_any f.la f.pl.length f.lc (ndCells f.pl) wv h.pl (nds_one _) (by omega) (by omega))
    (refine wpAnyL_ready (rs := [2]) (by kernel_rfl) (by simp) ?_; refine List.forall_mem_cons.2 ⟨stepL (o := { dst := some 18, op := Op.call { callee := Callee.value (Operand.func 40), args := #[Operand.tmp 17], argTypes := #[23] }, type := 23, pos := "farm.go:85", after := #[{ on := 1, ground := Ground.data }], guard := none }) rfl (fun K hK => ?_), fun _ h => by cases h⟩; (try go_simp); (go_at_call 40; refine D1.out.mono ?_; rintro e w3 ⟨v3, rfl, o3, g3⟩; obtain ⟨A3, c3, rfl, _, _⟩ := own_form o3; have hb3 := hb.trans (g3.mono hb.size); replace h := h.all g3); go_wp2_with fail; refine hK.out _ _ (hS.out _ hb3) (fun hHeld => ?_); (clear hK K; (try simp only [Act.put, List.setIfInBounds_toArray, List.set_cons_zero, List.set_cons_succ])))
    (refine wpAnyL_take (i := 12) (oi := { dst := some 28, op := Op.fieldAddr 29 (Operand.tmp 1) 1, type := 0, pos := "farm.go:85", after := #[{ on := 0, ground := Ground.phase }, { on := 1, ground := Ground.phase }, { on := 2, ground := Ground.phase }, { on := 3, ground := Ground.phase }, { on := 4, ground := Ground.phase }, { on := 5, ground := Ground.textOnly Departure.lateStoresUnsure }, { on := 6, ground := Ground.phase }, { on := 7, ground := Ground.phase }, { on := 8, ground := Ground.textOnly Departure.lateStoresUnsure }, { on := 9, ground := Ground.phase }, { on := 10, ground := Ground.phase }, { on := 11, ground := Ground.textOnly Departure.lateStoresUnsure }], guard := none }) (v := ?_) rfl (by kernel_rfl) (by kernel_rfl) (by kernel_rfl) (fun _ _ _ h => h) (Or.inl ⟨by rfl, ?_⟩) (by assumption) (by kernel_rfl) (by rfl) ?_; rotate_left; (focus (intro w hSw; (try dsimp only at hSw); go_simp; (try with_reducible rfl))); (try simp only [Act.put, List.setIfInBounds_toArray, List.set_cons_zero, List.set_cons_succ]))
    have D2 := Lib.hid (cloneBoolsF_any f.da f.dn.length f.dc (boolsV f.dn) w3 h.dn (bools_one _) (by omega) (by omega))
    (refine wpAnyL_ready (rs := [5]) (by kernel_rfl) (by simp) ?_; refine List.forall_mem_cons.2 ⟨stepL (o := { dst := some 21, op := Op.call { callee := Callee.value (Operand.func 46), args := #[Operand.tmp 20], argTypes := #[24] }, type := 24, pos := "farm.go:85", after := #[{ on := 4, ground := Ground.data }, { on := 2, ground := Ground.chain }], guard := none }) rfl (fun K hK => ?_), fun _ h => by cases h⟩; (try go_simp); (go_at_call 46; refine D2.out.mono ?_; rintro e w4 ⟨v4, rfl, o4, g4⟩; obtain ⟨A4, c4, rfl, _, _⟩ := own_form o4; have hb4 := hb3.trans (g4.mono hb3.size); replace h := h.all g4); go_wp2_with fail; refine hK.out _ _ (hS.out _ hb4) (fun hHeld => ?_); (clear hK K; (try simp only [Act.put, List.setIfInBounds_toArray, List.set_cons_zero, List.set_cons_succ])))
    have D3 := Lib.hid (cloneGrantsF_any f.ga f.gs.length f.gc (grsV f.gs) w4 h.gs (grs_one _) (by omega) (by omega))
    (refine wpAnyL_ready (rs := [8]) (by kernel_rfl) (by simp) ?_; refine List.forall_mem_cons.2 ⟨stepL (o := { dst := some 24, op := Op.call { callee := Callee.value (Operand.func 47), args := #[Operand.tmp 23], argTypes := #[25] }, type := 25, pos := "farm.go:85", after := #[{ on := 7, ground := Ground.data }, { on := 5, ground := Ground.chain }], guard := none }) rfl (fun K hK => ?_), fun _ h => by cases h⟩; (try go_simp); (go_at_call 47; refine D3.out.mono ?_; rintro e w5 ⟨v5, rfl, o5, g5⟩; obtain ⟨A5, c5, rfl, _, _⟩ := own_form o5; have hb5 := hb4.trans (g5.mono hb4.size); replace h := h.all g5); go_wp2_with fail; refine hK.out _ _ (hS.out _ hb5) (fun hHeld => ?_); (clear hK K; (try simp only [Act.put, List.setIfInBounds_toArray, List.set_cons_zero, List.set_cons_succ])))
    have D4 := Lib.hid (cloneIntsF_any f.wa f.wk.length f.wc (intsV f.wk) w5 h.wk (ints_one _) (by omega) (by omega))
    (refine wpAnyL_ready (rs := [11]) (by kernel_rfl) (by simp) ?_; refine List.forall_mem_cons.2 ⟨stepL (o := { dst := some 27, op := Op.call { callee := Callee.value (Operand.func 48), args := #[Operand.tmp 26], argTypes := #[26] }, type := 26, pos := "farm.go:85", after := #[{ on := 10, ground := Ground.data }, { on := 8, ground := Ground.chain }], guard := none }) rfl (fun K hK => ?_), fun _ h => by cases h⟩; (try go_simp); (go_at_call 48; refine D4.out.mono ?_; rintro e w6 ⟨v6, rfl, o6, g6⟩; obtain ⟨A6, c6, rfl, _, _⟩ := own_form o6; have hb6 := hb5.trans (g6.mono hb5.size); replace h := h.all g6); go_wp2_with fail; refine hK.out _ _ (hS.out _ hb6) (fun hHeld => ?_); (clear hK K; (try simp only [Act.put, List.setIfInBounds_toArray, List.set_cons_zero, List.set_cons_succ])))
    clear D1 D2 D3 D4 hHeld hS
    have k6 := kF.all hb6
    have q1 := k6.cell 1
    have q3 := k6.cell 3
    have q5 := k6.cell 5
    have q6 := k6.cell 6
    have z1 := k6.frozen 1
    have z3 := k6.frozen 3
    have z5 := k6.frozen 5
    have z6 := k6.frozen 6
    have y0 := hB.size
    have y1 := hb.size
    have y2 := g3.size
    have y3 := g4.size
    have y4 := g5.size
    have hO6 : FrM.Own w6 w.heap.size ⟨ps1, f.pl, f.now, f.dn, hv1, f.gs, f.wk, [], A1, c1, A3, c3, A4, c4, A2, c2, A5, c5, A6, c6, none, 0⟩ :=
      ⟨own_all r1 hb6, fun p hp => (r1e p hp).all hb6, (own_all (own_all (own_all o3 g4) g5) g6).mono (by omega), (own_all (own_all o4 g5) g6).mono (by omega), own_all r2 hb6, fun p hp => (r2e p hp).all hb6, (own_all o5 g6).mono (by omega), o6.mono (by omega), World.ownsRow_nil _ _ _ _, fun m hm => absurd hm (by simp), hap⟩
    have k7 := k6.set_ 1 (.slice A3 f.pl.length c3)
    have k8 := k7.set_ 3 (.slice A4 f.dn.length c4)
    have k9 := k8.set_ 5 (.slice A5 f.gs.length c5)
    have kZ := k9.set_ 6 (.slice A6 f.wk.length c6)
    have hOZ := (((hO6.box (j := 1) k6 (.slice A3 f.pl.length c3)).box (j := 3) k7 (.slice A4 f.dn.length c4)).box (j := 5) k8 (.slice A5 f.gs.length c5)).box (j := 6) k9 (.slice A6 f.wk.length c6)
    simp only [List.setIfInBounds_toArray, List.set_cons_zero, List.set_cons_succ] at kZ
    have kRZ := ((((kR.all hb6).far (p := ⟨gF, 1, none⟩) (Ne.symm hne) (.slice A3 f.pl.length c3)).far (p := ⟨gF, 3, none⟩) (Ne.symm hne) (.slice A4 f.dn.length c4)).far (p := ⟨gF, 5, none⟩) (Ne.symm hne) (.slice A5 f.gs.length c5)).far (p := ⟨gF, 6, none⟩) (Ne.symm hne) (.slice A6 f.wk.length c6)
    have hBZ := (((((hB.trans (hb6.mono hB.size)).setCell (p := ⟨gF, 1, none⟩) hgF1 (.slice A3 f.pl.length c3)).setCell (p := ⟨gF, 3, none⟩) hgF1 (.slice A4 f.dn.length c4)).setCell (p := ⟨gF, 5, none⟩) hgF1 (.slice A5 f.gs.length c5)).setCell (p := ⟨gF, 6, none⟩) hgF1 (.slice A6 f.wk.length c6))
    clear k6 k7 k8 k9 hO6 r1 r1e r2 r2e o3 o4 o5 o6 kF kR hB hb hb3 hb4 hb5 g3 g4 g5 y0 y1 y2 y3 y4
    (refine wpAnyL_ready (rs := [13]) (by kernel_rfl) (by simp) ?_; refine List.forall_mem_cons.2 ⟨stepLate (o := { dst := none, op := Op.store 23 (Operand.tmp 28) (Operand.tmp 18), type := 0, pos := "farm.go:85", after := #[{ on := 12, ground := Ground.data }, { on := 2, ground := Ground.data }, { on := 11, ground := Ground.chain }, { on := 0, ground := Ground.phase }, { on := 1, ground := Ground.phase }, { on := 2, ground := Ground.phase }, { on := 3, ground := Ground.phase }, { on := 4, ground := Ground.phase }, { on := 5, ground := Ground.textOnly Departure.lateStoresUnsure }, { on := 6, ground := Ground.phase }, { on := 7, ground := Ground.phase }, { on := 8, ground := Ground.textOnly Departure.lateStoresUnsure }, { on := 9, ground := Ground.phase }, { on := 10, ground := Ground.phase }, { on := 11, ground := Ground.textOnly Departure.lateStoresUnsure }], guard := none }) rfl (by rfl) (fun K hK => ?_), fun _ h => by cases h⟩; go_simp; refine hK.out _ _ ?_; (clear hK K; (try simp only [Act.put, List.setIfInBounds_toArray, List.set_cons_zero, List.set_cons_succ])))
    (refine wpAnyL_ready (rs := [14]) (by kernel_rfl) (by simp) ?_; refine List.forall_mem_cons.2 ⟨stepLate (o := { dst := some 29, op := Op.fieldAddr 29 (Operand.tmp 1) 3, type := 0, pos := "farm.go:85", after := #[{ on := 0, ground := Ground.phase }, { on := 1, ground := Ground.phase }, { on := 2, ground := Ground.phase }, { on := 3, ground := Ground.phase }, { on := 4, ground := Ground.phase }, { on := 5, ground := Ground.phase }, { on := 6, ground := Ground.phase }, { on := 7, ground := Ground.phase }, { on := 8, ground := Ground.textOnly Departure.lateStoresUnsure }, { on := 9, ground := Ground.phase }, { on := 10, ground := Ground.phase }, { on := 11, ground := Ground.textOnly Departure.lateStoresUnsure }, { on := 12, ground := Ground.phase }, { on := 13, ground := Ground.phase }], guard := none }) rfl (by rfl) (fun K hK => ?_), fun _ h => by cases h⟩; go_simp; refine hK.out _ _ ?_; (clear hK K; (try simp only [Act.put, List.setIfInBounds_toArray, List.set_cons_zero, List.set_cons_succ])))
    (refine wpAnyL_ready (rs := [15]) (by kernel_rfl) (by simp) ?_; refine List.forall_mem_cons.2 ⟨stepLate (o := { dst := none, op := Op.store 24 (Operand.tmp 29) (Operand.tmp 21), type := 0, pos := "farm.go:85", after := #[{ on := 14, ground := Ground.data }, { on := 5, ground := Ground.data }, { on := 13, ground := Ground.chain }, { on := 0, ground := Ground.phase }, { on := 1, ground := Ground.phase }, { on := 2, ground := Ground.phase }, { on := 3, ground := Ground.phase }, { on := 4, ground := Ground.phase }, { on := 5, ground := Ground.phase }, { on := 6, ground := Ground.phase }, { on := 7, ground := Ground.phase }, { on := 8, ground := Ground.textOnly Departure.lateStoresUnsure }, { on := 9, ground := Ground.phase }, { on := 10, ground := Ground.phase }, { on := 11, ground := Ground.textOnly Departure.lateStoresUnsure }, { on := 12, ground := Ground.phase }, { on := 13, ground := Ground.phase }], guard := none }) rfl (by rfl) (fun K hK => ?_), fun _ h => by cases h⟩; go_simp; refine hK.out _ _ ?_; (clear hK K; (try simp only [Act.put, List.setIfInBounds_toArray, List.set_cons_zero, List.set_cons_succ])))
    (refine wpAnyL_ready (rs := [16]) (by kernel_rfl) (by simp) ?_; refine List.forall_mem_cons.2 ⟨stepLate (o := { dst := some 30, op := Op.fieldAddr 29 (Operand.tmp 1) 5, type := 0, pos := "farm.go:85", after := #[{ on := 0, ground := Ground.phase }, { on := 1, ground := Ground.phase }, { on := 2, ground := Ground.phase }, { on := 3, ground := Ground.phase }, { on := 4, ground := Ground.phase }, { on := 5, ground := Ground.phase }, { on := 6, ground := Ground.phase }, { on := 7, ground := Ground.phase }, { on := 8, ground := Ground.phase }, { on := 9, ground := Ground.phase }, { on := 10, ground := Ground.phase }, { on := 11, ground := Ground.textOnly Departure.lateStoresUnsure }, { on := 12, ground := Ground.phase }, { on := 13, ground := Ground.phase }, { on := 14, ground := Ground.phase }, { on := 15, ground := Ground.phase }], guard := none }) rfl (by rfl) (fun K hK => ?_), fun _ h => by cases h⟩; go_simp; refine hK.out _ _ ?_; (clear hK K; (try simp only [Act.put, List.setIfInBounds_toArray, List.set_cons_zero, List.set_cons_succ])))
    (refine wpAnyL_ready (rs := [17]) (by kernel_rfl) (by simp) ?_; refine List.forall_mem_cons.2 ⟨stepLate (o := { dst := none, op := Op.store 25 (Operand.tmp 30) (Operand.tmp 24), type := 0, pos := "farm.go:85", after := #[{ on := 16, ground := Ground.data }, { on := 8, ground := Ground.data }, { on := 15, ground := Ground.chain }, { on := 0, ground := Ground.phase }, { on := 1, ground := Ground.phase }, { on := 2, ground := Ground.phase }, { on := 3, ground := Ground.phase }, { on := 4, ground := Ground.phase }, { on := 5, ground := Ground.phase }, { on := 6, ground := Ground.phase }, { on := 7, ground := Ground.phase }, { on := 8, ground := Ground.phase }, { on := 9, ground := Ground.phase }, { on := 10, ground := Ground.phase }, { on := 11, ground := Ground.textOnly Departure.lateStoresUnsure }, { on := 12, ground := Ground.phase }, { on := 13, ground := Ground.phase }, { on := 14, ground := Ground.phase }, { on := 15, ground := Ground.phase }], guard := none }) rfl (by rfl) (fun K hK => ?_), fun _ h => by cases h⟩; go_simp; refine hK.out _ _ ?_; (clear hK K; (try simp only [Act.put, List.setIfInBounds_toArray, List.set_cons_zero, List.set_cons_succ])))
    (refine wpAnyL_ready (rs := [18]) (by kernel_rfl) (by simp) ?_; refine List.forall_mem_cons.2 ⟨stepLate (o := { dst := some 31, op := Op.fieldAddr 29 (Operand.tmp 1) 6, type := 0, pos := "farm.go:85", after := #[{ on := 0, ground := Ground.phase }, { on := 1, ground := Ground.phase }, { on := 2, ground := Ground.phase }, { on := 3, ground := Ground.phase }, { on := 4, ground := Ground.phase }, { on := 5, ground := Ground.phase }, { on := 6, ground := Ground.phase }, { on := 7, ground := Ground.phase }, { on := 8, ground := Ground.phase }, { on := 9, ground := Ground.phase }, { on := 10, ground := Ground.phase }, { on := 11, ground := Ground.phase }, { on := 12, ground := Ground.phase }, { on := 13, ground := Ground.phase }, { on := 14, ground := Ground.phase }, { on := 15, ground := Ground.phase }, { on := 16, ground := Ground.phase }, { on := 17, ground := Ground.phase }], guard := none }) rfl (by rfl) (fun K hK => ?_), fun _ h => by cases h⟩; go_simp; refine hK.out _ _ ?_; (clear hK K; (try simp only [Act.put, List.setIfInBounds_toArray, List.set_cons_zero, List.set_cons_succ])))
    (refine wpAnyL_ready (rs := [19]) (by kernel_rfl) (by simp) ?_; refine List.forall_mem_cons.2 ⟨stepLate (o := { dst := none, op := Op.store 26 (Operand.tmp 31) (Operand.tmp 27), type := 0, pos := "farm.go:85", after := #[{ on := 18, ground := Ground.data }, { on := 11, ground := Ground.data }, { on := 17, ground := Ground.chain }, { on := 0, ground := Ground.phase }, { on := 1, ground := Ground.phase }, { on := 2, ground := Ground.phase }, { on := 3, ground := Ground.phase }, { on := 4, ground := Ground.phase }, { on := 5, ground := Ground.phase }, { on := 6, ground := Ground.phase }, { on := 7, ground := Ground.phase }, { on := 8, ground := Ground.phase }, { on := 9, ground := Ground.phase }, { on := 10, ground := Ground.phase }, { on := 11, ground := Ground.phase }, { on := 12, ground := Ground.phase }, { on := 13, ground := Ground.phase }, { on := 14, ground := Ground.phase }, { on := 15, ground := Ground.phase }, { on := 16, ground := Ground.phase }, { on := 17, ground := Ground.phase }], guard := none }) rfl (by rfl) (fun K hK => ?_), fun _ h => by cases h⟩; go_simp; refine hK.out _ _ ?_; (clear hK K; (try simp only [Act.put, List.setIfInBounds_toArray, List.set_cons_zero, List.set_cons_succ])))
    clear q1 q3 q5 q6 z1 z3 z5 z6
    refine wpAnyL_done (by kernel_rfl) ?_ _
    obtain ⟨W7, hW7⟩ : ∃ x, x = (((w6.setCell ⟨gF, 1, none⟩ (.slice A3 f.pl.length c3)).setCell ⟨gF, 3, none⟩ (.slice A4 f.dn.length c4)).setCell ⟨gF, 5, none⟩ (.slice A5 f.gs.length c5)).setCell ⟨gF, 6, none⟩ (.slice A6 f.wk.length c6) := ⟨_, rfl⟩
    rw [← hW7] at hOZ kZ kRZ hBZ ⊢
    clear hW7 hb6 g6 h
    have h7 := h00.keep hBZ hBZ.size
    have q7 := kZ.cell 7
    go_wp2_with fail
    refine (cloneMsgsF_any f.na f.nt.length f.nc (mssV f.nt) W7 h7.nt (mss_one _) (by omega) (by omega)).mono ?_
    rintro e w8 ⟨v8, rfl, o8, g8⟩
    obtain ⟨A8, c8, rfl, _, _⟩ := own_form o8
    replace hOZ := hOZ.all g8
    replace kZ := kZ.all g8
    replace kRZ := kRZ.all g8
    have y0 := hBZ.size
    replace hBZ := hBZ.trans (g8.mono hBZ.size)
    have o9 := o8.mono (base' := w.heap.size) y0
    have kN := kZ.set_ 7 (.slice A8 f.nt.length c8)
    simp only [List.setIfInBounds_toArray, List.set_cons_zero, List.set_cons_succ] at kN
    have f7 := kZ.frozen 7
    have r7 := kZ.cell 7
    have hON := hOZ.box (j := 7) kZ (.slice A8 f.nt.length c8)
    have kRN := kRZ.far (p := ⟨gF, 7, none⟩) (Ne.symm hne) (.slice A8 f.nt.length c8)
    have oN := own_setCell o9 (own_blk_ne o9 kZ (by decide)) (p := ⟨gF, 7, none⟩) (.slice A8 f.nt.length c8)
    have hBN := hBZ.setCell (p := ⟨gF, 7, none⟩) hgF1 (.slice A8 f.nt.length c8)
    obtain ⟨n, hn⟩ : ∃ n, n = f.nt.length := ⟨_, rfl⟩
    rw [← hn] at n7 kN hON kRN oN hBN ⊢
    have HN := Lib.hid hn
    clear hn q7 h7 o8 o9 g8 y0 hOZ kZ kRZ hBZ
    go_wp2
    go_loopw [39] (fun i wr => ∃ (k : Nat) (ds : List MsM), k ≤ n ∧ i = .int .i64 k ∧ Hid (ds.map MsM.er = (f.nt.take k).map MsM.er) ∧ wr.ownsRow w.heap.size 50 5 (.slice A8 n c8) n (mssV (ds ++ f.nt.drop k)) ∧ Hid (∀ m ∈ ds, m.p.Own wr w.heap.size) ∧
      FrM.Own wr w.heap.size ⟨ps1, f.pl, f.now, f.dn, hv1, f.gs, f.wk, [], A1, c1, A3, c3, A4, c4, A2, c2, A5, c5, A6, c6, none, 0⟩ ∧
      Blk wr gF 29 #[.slice A1 ps1.length c1, .slice A3 f.pl.length c3, .int .i64 f.now, .slice A4 f.dn.length c4, .slice A2 hv1.length c2, .slice A5 f.gs.length c5, .slice A6 f.wk.length c6, .slice A8 n c8] ∧
      Blk wr gR 29 #[.slice none 0 0, .slice none 0 0, .int .i64 0, .slice none 0 0, .slice none 0 0, .slice none 0 0, .slice none 0 0, .slice none 0 0] ∧ Below w.heap.size w wr) (fun i _ => n - (intOf i).toNat)
    case atStart => exact ⟨0, [], Nat.zero_le _, rfl, Lib.hid (by simp), by simpa using oN, Lib.hid (by simp), hON, kN, kRN, hBN⟩
    case round =>
      clear kN hON kRN oN hBN f7 r7
      obtain ⟨k, ds, hk, rfl, hde, oN, hds, hON, kN, kRN, hBN⟩ := hrel
      by_cases hlt : k < n
      · obtain ⟨m, hm⟩ : ∃ m, f.nt[k]? = some m := ⟨_, List.getElem?_eq_getElem (by rw [← HN.out]; exact hlt)⟩
        have hlq : ds.length = k := by have := congrArg List.length hde.out; simp only [List.length_map, List.length_take] at this; have := HN.out; omega
        have hm2 : (ds ++ f.nt.drop k)[k]? = some m := by rw [List.getElem?_append_right (by omega), hlq, Nat.sub_self, List.getElem?_drop, Nat.add_zero]; exact hm
        have HLs : Hid (∀ q, (ds ++ f.nt.drop k).set k q = (ds ++ [q]) ++ f.nt.drop (k + 1)) := fun q => by
          rw [List.set_append_right _ _ (by omega), hlq, Nat.sub_self, List.drop_eq_getElem_cons (by rw [← HN.out]; exact hlt), List.set_cons_zero, List.append_assoc]
          rfl
        have HTK : Hid (∀ q : MsM, q.er = m.er → (ds ++ [q]).map MsM.er = (f.nt.take (k + 1)).map MsM.er) := fun q hq => by
          rw [List.take_add_one, hm, List.map_append, List.map_append, hde.out]
          simp [hq]
        have hL : (ds ++ f.nt.drop k).length = n := by rw [List.length_append, List.length_drop, ← HN.out]; omega
        obtain ⟨L, hLe⟩ : ∃ L, L = ds ++ f.nt.drop k := ⟨_, rfl⟩
        rw [← hLe] at oN hL hm2 HLs
        have hP := (h00.each m (List.mem_of_getElem? hm)).keep hBN hBN.size
        have hPS := SN.out m (List.mem_of_getElem? hm)
        have HM2 := Lib.hid hm2
        obtain ⟨gN, cap, hv, hgN, hgl⟩ := oN.form (by omega)
        injection hv with hA _ hcap
        subst hA hcap
        have R : Reads wr wr.heap.size 5 (some ⟨gN, 0, none⟩) L.length (mssV L) := by rw [hL]; exact Reads.of_own oN
        obtain ⟨b0, o0, ez, _, d0, d1, d2, d3, d4⟩ := ms_get R hm2
        injection ez with ez
        injection ez with x1 x2
        subst x1 x2
        simp only [Nat.zero_add] at d0 d1 d2 d3 d4
        obtain ⟨cur, kRow⟩ := own_cur' oN
        have hgNF : gN ≠ gF := kRow.ne_ kN (by decide)
        have q7 := kN.cell 7
        clear R hLe hm hlq hL hm2
        go_upto_region 8 with (fail)
        have kM := Blk.new wr 50 #[.int .i64 m.kind, .int .i64 m.worker, .int .i64 m.n, .slice m.p.fa m.p.frs.length m.p.fc, .slice m.p.da m.p.dfs.length m.p.dc]
        have hbx : Below wr.heap.size wr (wr.alloc (.cells #[.int .i64 m.kind, .int .i64 m.worker, .int .i64 m.n, .slice m.p.fa m.p.frs.length m.p.fc, .slice m.p.da m.p.dfs.length m.p.dc] 50)) := by (repeat' (first | exact Below.refl _ _ | assumption | refine Below.setCell ?_ (by first | omega | exact Below.size (by assumption) | (simp; done) | (simp; omega)) _ | refine Below.alloc ?_ (by first | omega | exact Below.size (by assumption) | (simp; done) | (simp; omega)) _ | refine Below.drew ?_ | refine below_drewN ?_ _))
        replace hP := hP.all hbx
        replace oN := own_all oN hbx
        replace kRow := kRow.all hbx
        replace kN := kN.all hbx
        replace kRN := kRN.all hbx
        replace hON := hON.all hbx
        have hdsA : Hid (∀ y ∈ ds, y.p.Own (wr.alloc (.cells #[.int .i64 m.kind, .int .i64 m.worker, .int .i64 m.n, .slice m.p.fa m.p.frs.length m.p.fc, .slice m.p.da m.p.dfs.length m.p.dc] 50)) w.heap.size) := fun y h => (hds.out y h).all hbx
        replace hBN := hBN.trans (hbx.mono hBN.size)
        obtain ⟨gM, hgM⟩ : ∃ g, g = wr.heap.size := ⟨_, rfl⟩
        obtain ⟨W1, hW1⟩ : ∃ x, x = wr.alloc (.cells #[.int .i64 m.kind, .int .i64 m.worker, .int .i64 m.n, .slice m.p.fa m.p.frs.length m.p.fc, .slice m.p.da m.p.dfs.length m.p.dc] 50) := ⟨_, rfl⟩
        rw [← hgM] at kM ⊢
        rw [← hW1] at kM hP oN kRow kN kRN hON hdsA hBN ⊢
        have hgMN : gN ≠ gM := by omega
        clear hW1 hgM hbx hds d0 d1 d2 d3 d4 q7
        have hS : Hid (∀ w', Below W1.heap.size W1 w' → (w'.cell? ⟨gF, 7, none⟩ = some (.slice (some ⟨gN, 0, none⟩) n c8) ∧ w'.cell? ⟨gM, 3, none⟩ = some (.slice m.p.fa m.p.frs.length m.p.fc) ∧ w'.cell? ⟨gM, 4, none⟩ = some (.slice m.p.da m.p.dfs.length m.p.dc))) :=
          fun w' h => ⟨(kN.all h).cell 7, (kM.all h).cell 3, (kM.all h).cell 4⟩
        have hb := (Below.refl W1.heap.size W1).drew
        refine wp_region_late (S := (fun w' => w'.cell? ⟨gF, 7, none⟩ = some (.slice (some ⟨gN, 0, none⟩) n c8) ∧ w'.cell? ⟨gM, 3, none⟩ = some (.slice m.p.fa m.p.frs.length m.p.fc) ∧ w'.cell? ⟨gM, 4, none⟩ = some (.slice m.p.da m.p.dfs.length m.p.dc)))
          [6, 7, 8] (by kernel_rfl) (hS.out _ hb) (fun hHeld => ?_)
        obtain ⟨wv, hwv⟩ : ∃ x, x = W1.drew := ⟨_, rfl⟩
        rw [← hwv] at hb hHeld ⊢
        clear hwv
        have hb1 := hb
        (refine wpAnyL_take (i := 0) (oi := { dst := some 44, op := Op.fieldAddr 29 (Operand.tmp 1) 7, type := 0, pos := "farm.go:88", after := #[], guard := none }) (v := ?_) rfl (by kernel_rfl) (by kernel_rfl) (by kernel_rfl) (fun _ _ _ h => h) (Or.inl ⟨by rfl, ?_⟩) (by assumption) (by kernel_rfl) (by rfl) ?_; rotate_left; (focus (intro w hSw; (try dsimp only at hSw); go_simp; (try with_reducible rfl))); (try simp only [Act.put, List.setIfInBounds_toArray, List.set_cons_zero, List.set_cons_succ]))
        (refine wpAnyL_take (i := 1) (oi := { dst := some 45, op := Op.load 27 (Operand.tmp 44), type := 27, pos := "farm.go:88", after := #[{ on := 0, ground := Ground.data }], guard := none }) (v := ?_) rfl (by kernel_rfl) (by kernel_rfl) (by kernel_rfl) (fun _ _ _ h => h) (Or.inl ⟨by rfl, ?_⟩) (by assumption) (by kernel_rfl) (by rfl) ?_; rotate_left; (focus (intro w hSw; (try dsimp only at hSw); go_simp; (try with_reducible rfl))); (try simp only [Act.put, List.setIfInBounds_toArray, List.set_cons_zero, List.set_cons_succ]))
        (refine wpAnyL_take (i := 2) (oi := { dst := some 46, op := Op.move (Operand.tmp 4), type := 3, pos := "farm.go:88", after := #[], guard := none }) (v := ?_) rfl (by kernel_rfl) (by kernel_rfl) (by kernel_rfl) (fun _ _ _ h => h) (Or.inl ⟨by rfl, ?_⟩) (by assumption) (by kernel_rfl) (by rfl) ?_; rotate_left; (focus (intro w hSw; (try dsimp only at hSw); go_simp; (try with_reducible rfl))); (try simp only [Act.put, List.setIfInBounds_toArray, List.set_cons_zero, List.set_cons_succ]))
        (refine wpAnyL_take (i := 3) (oi := { dst := some 47, op := Op.fieldAddr 50 (Operand.tmp 5) 3, type := 0, pos := "farm.go:88", after := #[], guard := none }) (v := ?_) rfl (by kernel_rfl) (by kernel_rfl) (by kernel_rfl) (fun _ _ _ h => h) (Or.inl ⟨by rfl, ?_⟩) (by assumption) (by kernel_rfl) (by rfl) ?_; rotate_left; (focus (intro w hSw; (try dsimp only at hSw); go_simp; (try with_reducible rfl))); (try simp only [Act.put, List.setIfInBounds_toArray, List.set_cons_zero, List.set_cons_succ]))
        (refine wpAnyL_take (i := 4) (oi := { dst := some 48, op := Op.load 44 (Operand.tmp 47), type := 44, pos := "farm.go:88", after := #[{ on := 3, ground := Ground.data }], guard := none }) (v := ?_) rfl (by kernel_rfl) (by kernel_rfl) (by kernel_rfl) (fun _ _ _ h => h) (Or.inl ⟨by rfl, ?_⟩) (by assumption) (by kernel_rfl) (by rfl) ?_; rotate_left; (focus (intro w hSw; (try dsimp only at hSw); go_simp; (try with_reducible rfl))); (try simp only [Act.put, List.setIfInBounds_toArray, List.set_cons_zero, List.set_cons_succ]))
        have CP := Lib.hid (copy_any m.p wv (hP.all hb) hPS)
        (refine wpAnyL_ready (rs := [5]) (by kernel_rfl) (by simp) ?_; refine List.forall_mem_cons.2 ⟨stepL (o := { dst := some 49, op := Op.call { callee := Callee.value (Operand.func 41), args := #[Operand.tmp 48], argTypes := #[44] }, type := 44, pos := "farm.go:88", after := #[{ on := 4, ground := Ground.data }], guard := none }) rfl (fun K hK => ?_), fun _ h => by cases h⟩; (try go_simp); (go_at_call 41; refine CP.out.mono ?_; rintro e w2 ⟨q, rfl, hqo, hqe, hb2'⟩; have hb2 := hb1.trans (hb2'.mono hb1.size)); go_wp2_with fail; refine hK.out _ _ (hS.out _ hb2) (fun hHeld => ?_); (clear hK K; (try simp only [Act.put, List.setIfInBounds_toArray, List.set_cons_zero, List.set_cons_succ])))
        clear CP hHeld hS
        have oN2 := own_all oN hb2
        have kRow2 := kRow.all hb2
        have i3 := own_isSome oN2 (j := k * 5 + 3) (by omega)
        have i4 := own_isSome oN2 (j := k * 5 + 4) (by omega)
        obtain ⟨u3, i3⟩ := Option.isSome_iff_exists.1 i3
        obtain ⟨u4, i4⟩ := Option.isSome_iff_exists.1 i4
        have f3 := kRow2.frozen (k * 5 + 3)
        have f4 := kRow2.frozen (k * 5 + 4)
        have s1 := oN2.stored (k * 5 + 3) (.slice q.fa q.frs.length q.fc)
        have s2 := s1.1.stored (k * 5 + 4) (.slice q.da q.dfs.length q.dc)
        have hr9 := s2.1
        rw [ms_put HM2.out, HLs.out] at hr9
        have hON9 := ((hON.all hb2).msgs rfl rfl rfl oN2 s1.2).msgs rfl rfl rfl s1.1 s2.2
        have kN9 := ((kN.all hb2).far (p := ⟨gN, k * 5 + 3, none⟩) (Ne.symm hgNF) (.slice q.fa q.frs.length q.fc)).far (p := ⟨gN, k * 5 + 4, none⟩) (Ne.symm hgNF) (.slice q.da q.dfs.length q.dc)
        have hgNR : gN ≠ gR := kRow.ne_ kRN (by decide)
        have kRN9 := ((kRN.all hb2).far (p := ⟨gN, k * 5 + 3, none⟩) (Ne.symm hgNR) (.slice q.fa q.frs.length q.fc)).far (p := ⟨gN, k * 5 + 4, none⟩) (Ne.symm hgNR) (.slice q.da q.dfs.length q.dc)
        have y0 := hBN.size
        have y1 := hb.size
        have hBN2 := hBN.trans (hb2.mono hBN.size)
        have hB9 := (hBN2.setCell (p := ⟨gN, k * 5 + 3, none⟩) hgN (.slice q.fa q.frs.length q.fc)).setCell (p := ⟨gN, k * 5 + 4, none⟩) hgN (.slice q.da q.dfs.length q.dc)
        have HQ9 : Hid (∀ y ∈ ds ++ [{ m with p := q }], y.p.Own ((w2.setCell ⟨gN, k * 5 + 3, none⟩ (.slice q.fa q.frs.length q.fc)).setCell ⟨gN, k * 5 + 4, none⟩ (.slice q.da q.dfs.length q.dc)) w.heap.size) := fun y hy => by
          have hy7 : y.p.Own w2 w.heap.size := by
            rcases List.mem_append.1 hy with hy | hy
            · exact (hdsA.out y hy).all hb2
            · obtain rfl := List.mem_singleton.1 hy
              exact hqo.mono (by omega)
          exact (hy7.kept_ty oN2 (by decide) (by decide) (by decide) (by decide) s1.2).kept_ty s1.1 (by decide) (by decide) (by decide) (by decide) s2.2
        have HT9 := Lib.hid (HTK.out { m with p := q } (by simp only [MsM.er, hqe]))
        have kk1 : (k : Int) < (n : Int) := by omega
        clear s1 s2 oN oN2 kRow kRow2 hON kN kRN hb hb1 hb2 hb2' hBN hBN2 hqo hP hdsA kM
        (refine wpAnyL_ready (rs := [6]) (by kernel_rfl) (by simp) ?_; refine List.forall_mem_cons.2 ⟨stepLate (o := { dst := some 50, op := Op.indexAddr 27 (Operand.tmp 45) (Operand.tmp 46), type := 0, pos := "farm.go:88", after := #[{ on := 1, ground := Ground.data }, { on := 2, ground := Ground.data }, { on := 0, ground := Ground.phase }, { on := 1, ground := Ground.phase }, { on := 2, ground := Ground.phase }, { on := 3, ground := Ground.phase }, { on := 4, ground := Ground.phase }, { on := 5, ground := Ground.phase }], guard := none }) rfl (by rfl) (fun K hK => ?_), fun _ h => by cases h⟩; go_simp; refine hK.out _ _ ?_; (clear hK K; (try simp only [Act.put, List.setIfInBounds_toArray, List.set_cons_zero, List.set_cons_succ])))
        (refine wpAnyL_ready (rs := [7]) (by kernel_rfl) (by simp) ?_; refine List.forall_mem_cons.2 ⟨stepLate (o := { dst := some 51, op := Op.fieldAddr 50 (Operand.tmp 50) 3, type := 0, pos := "farm.go:88", after := #[{ on := 6, ground := Ground.data }, { on := 0, ground := Ground.phase }, { on := 1, ground := Ground.phase }, { on := 2, ground := Ground.phase }, { on := 3, ground := Ground.phase }, { on := 4, ground := Ground.phase }, { on := 5, ground := Ground.phase }], guard := none }) rfl (by rfl) (fun K hK => ?_), fun _ h => by cases h⟩; go_simp; refine hK.out _ _ ?_; (clear hK K; (try simp only [Act.put, List.setIfInBounds_toArray, List.set_cons_zero, List.set_cons_succ])))
        (refine wpAnyL_ready (rs := [8]) (by kernel_rfl) (by simp) ?_; refine List.forall_mem_cons.2 ⟨stepLate (o := { dst := none, op := Op.store 44 (Operand.tmp 51) (Operand.tmp 49), type := 0, pos := "farm.go:88", after := #[{ on := 7, ground := Ground.data }, { on := 5, ground := Ground.data }, { on := 5, ground := Ground.chain }, { on := 0, ground := Ground.phase }, { on := 1, ground := Ground.phase }, { on := 2, ground := Ground.phase }, { on := 3, ground := Ground.phase }, { on := 4, ground := Ground.phase }, { on := 5, ground := Ground.phase }], guard := none }) rfl (by rfl) (fun K hK => ?_), fun _ h => by cases h⟩; go_simp; refine hK.out _ _ ?_; (clear hK K; (try simp only [Act.put, List.setIfInBounds_toArray, List.set_cons_zero, List.set_cons_succ])))
        refine wpAnyL_done (by kernel_rfl) ?_ _
        go_wp2
        go_roundw
        case rel => exact ⟨k + 1, ds ++ [{ m with p := q }], by omega, by go_num, HT9, hr9, HQ9, hON9, kN9, kRN9, hB9⟩
        case measure => simp [intOf]; omega
      · obtain rfl : k = n := by omega
        have hdl : ds.length = k := by have := congrArg List.length hde.out; simp only [List.length_map, List.length_take] at this; have := HN.out; omega
        rw [HN.out, List.drop_length, List.append_nil, ← HN.out] at oN
        have hde' : Hid (ds.map MsM.er = f.nt.map MsM.er) := by have := hde.out; rw [HN.out, List.take_length] at this; exact this
        have q0 := kN.cell 0
        have q1 := kN.cell 1
        have q2 := kN.cell 2
        have q3 := kN.cell 3
        have q4 := kN.cell 4
        have q5 := kN.cell 5
        have q6 := kN.cell 6
        have q7 := kN.cell 7
        have x0 := kRN.cell 0
        have x1 := kRN.cell 1
        have x2 := kRN.cell 2
        have x3 := kRN.cell 3
        have x4 := kRN.cell 4
        have x5 := kRN.cell 5
        have x6 := kRN.cell 6
        have x7 := kRN.cell 7
        have f0 := kRN.frozen 0
        have f1 := kRN.frozen 1
        have f2 := kRN.frozen 2
        have f3 := kRN.frozen 3
        have f4 := kRN.frozen 4
        have f5 := kRN.frozen 5
        have f6 := kRN.frozen 6
        have f7 := kRN.frozen 7
        obtain ⟨f', hf'⟩ : ∃ f' : FrM, f' = ⟨ps1, f.pl, f.now, f.dn, hv1, f.gs, f.wk, ds, A1, c1, A3, c3, A4, c4, A2, c2, A5, c5, A6, c6, A8, c8⟩ := ⟨_, rfl⟩
        have hOF : f'.Own wr w.heap.size := by
          subst hf'
          exact ⟨hON.ps, hON.pse, hON.pl, hON.dn, hON.hv, hON.hve, hON.gs, hON.wk, by show World.ownsRow wr _ _ 5 (.slice A8 ds.length c8) ds.length _; rw [hdl]; exact oN, hds.out, hON.apart⟩
        have hEr : f'.er = f.er := by
          subst hf'
          simp only [FrM.er, e1, e2, hde'.out]
        have hPut := hOF.put8 kRN f'
        have hBl := kRN.put8 f'
        have hBe := below_put8 hBN hgR1 f'
        have y0 := hBl.cell 0
        have y1 := hBl.cell 1
        have y2 := hBl.cell 2
        have y3 := hBl.cell 3
        have y4 := hBl.cell 4
        have y5 := hBl.cell 5
        have y6 := hBl.cell 6
        have y7 := hBl.cell 7
        subst hf'
        simp only [hdl] at hPut hBl hBe y0 y1 y2 y3 y4 y5 y6 y7
        clear hde hde' oN hds hON kN hOF
        go_wp2
        refine bodyPost_ret (v := .agg #[.slice A1 ps1.length c1, .slice A3 f.pl.length c3, .int .i64 f.now, .slice A4 f.dn.length c4, .slice A2 hv1.length c2, .slice A5 f.gs.length c5, .slice A6 f.wk.length c6, .slice A8 k c8]) (by simp [results, Try.results22, go_sem, y0, y1, y2, y3, y4, y5, y6, y7]) rfl
          ⟨⟨ps1, f.pl, f.now, f.dn, hv1, f.gs, f.wk, ds, A1, c1, A3, c3, A4, c4, A2, c2, A5, c5, A6, c6, A8, c8⟩, by simp only [hdl], hPut, hEr, hBe⟩
end Go.Proofs.Ytkfmkemjoddinaa
