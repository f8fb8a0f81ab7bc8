/- FmS: texts that belong together. -/
import Derived.Lib.AppendZeros
import Derived.Test.YtkfmkemjoddinaaBA
import Derived.Test.YtkfmkemjoddinaaCheckW
import Derived.Test.YtkfmkemjoddinaaCopyW
import Derived.Test.YtkfmkemjoddinaaEvalX
set_option linter.all false
/- slices.Grow of nothing, slices.Concat, at parts. -/
namespace Go.Proofs.Ytkfmkemjoddinaa
open Go.RowKit
set_option maxRecDepth 100000

theorem pts_one (l : List PtM) : ∀ u ∈ ptsV l, u.oneCell' = true := by
  intro u hu
  obtain ⟨p, _, hp⟩ := List.mem_flatMap.1 hu
  simp only [PtM.cells, List.mem_cons, List.not_mem_nil, or_false] at hp
  rcases hp with rfl | rfl <;> rfl

set_option maxHeartbeats 1000000 in
theorem growParts_nil (n : Nat) (w : World) (hn : n * 48 ≤ 140737488355328) :
    Calls Try.prog 56 #[.slice none 0 0, .int .i64 n] w fun e w' => ∃ v, e = .returned v ∧ w'.ownsRow w.heap.size 44 2 v 0 [] ∧ Below w.heap.size w w' := by
  obtain ⟨i0, hi, hz0, hz1, hz2⟩ := info_parts Try.infoParts
  rcases Nat.eq_zero_or_pos n with h0 | h0
  · subst h0
    go_enter Try.func56, Try.ntmps56
    go_wp2
    go_ret
    exact ⟨_, rfl, World.ownsRow_nil _ _ _ _, Below.refl _ _⟩
  · have hm : n ≤ maxLen := by unfold maxLen; omega
    have hcap := grownCap_le_maxLen w n 0 44 hm
    have hge := grownCap_ge w n 0 44
    unfold maxLen at hcap
    go_enter Try.func56, Try.ntmps56
    go_wp2_with (at_builtin; refine Lib.wpList_append_run _ rfl (.tmp 20) (.tmp 21) 22 3 rfl (.slice none 0 0) (.int .i64 n) rfl rfl _ _ (Lib.run_append_nil_zeros _ 22 3 _ 44 i0 (.agg #[.slice none 0 0, .slice none 0 0]) .i64 .i64 Try.underlying22 Try.underlying3 hi hz0 n h0 (by rw [hz1]; decide) (by omega) (by rw [hz2]; omega)) ?_)
    go_ret
    refine ⟨_, rfl, World.ownsRow_made (w := w.drew) _ _ (Nat.le_refl _) (by unfold maxLen; omega) ?_, (Below.refl _ _).drew.alloc (Nat.le_refl _) _⟩
    simp [size_zeroCells, Value.cells]
    omega
def catParts (ss : List (SliceIn PtM)) : List PtM := ss.flatMap SliceIn.l
theorem catParts_len (ss : List (SliceIn PtM)) (k : Nat) : (catParts (ss.take k)).length ≤ (catParts ss).length := by
  have : catParts ss = catParts (ss.take k) ++ catParts (ss.drop k) := by unfold catParts; rw [← List.flatMap_append, List.take_append_drop]
  rw [this, List.length_append]; omega
theorem catParts_snoc (ss : List (SliceIn PtM)) (k : Nat) (s : SliceIn PtM) (h : ss[k]? = some s) : catParts (ss.take (k + 1)) = catParts (ss.take k) ++ s.l := by
  have hk : k < ss.length := (List.getElem?_eq_some_iff.1 h).1
  have hs : ss[k] = s := (List.getElem?_eq_some_iff.1 h).2
  unfold catParts
  rw [List.take_succ_eq_append_getElem hk, List.flatMap_append, hs]; simp

set_option maxHeartbeats 2000000 in
theorem concatParts_any (A : Option Addr) (c : Nat) (ss : List (SliceIn PtM)) (w : World) (h : Reads w w.heap.size 1 A ss.length (ss.map fun s => .slice s.A s.l.length s.c))
    (he : ∀ s ∈ ss, Reads w w.heap.size 2 s.A s.l.length (ptsV s.l)) (hsum : (catParts ss).length * 48 ≤ 140737488355328) (hn : ss.length ≤ 65536) :
    Calls Try.prog 26 #[.slice A ss.length c] w fun e w' => ∃ v, e = .returned v ∧ w'.ownsRow w.heap.size 44 2 v (catParts ss).length (ptsV (catParts ss)) ∧ Below w.heap.size w w' := by
  obtain ⟨i0, hi, hz0, hz1, hz2⟩ := info_parts Try.infoParts
  have HE := Lib.hid he
  clear he
  go_enter Try.func26, Try.ntmps26
  go_wp2
  go_loop [3, 11] (fun z i => ∃ k : Nat, k ≤ ss.length ∧ i = .int .i64 k ∧ z = .int .i64 (catParts (ss.take k)).length) (fun _ i => ss.length - (intOf i).toNat)
  case atStart => exact ⟨0, Nat.zero_le _, rfl, rfl⟩
  case round =>
    obtain ⟨k, hk, rfl, rfl⟩ := hrel
    have hle := catParts_len ss k
    by_cases hlt : k < ss.length
    · obtain ⟨b, off, u, rfl, hb, hu, hc⟩ := h.at_ hlt
      obtain ⟨s, hs⟩ : ∃ s, ss[k]? = some s := ⟨_, List.getElem?_eq_getElem hlt⟩
      rw [List.getElem?_map, hs] at hu
      cases hu
      have hsn := catParts_snoc ss k s hs
      have hle2 := catParts_len ss (k + 1)
      have hl : (catParts (ss.take (k + 1))).length = (catParts (ss.take k)).length + s.l.length := by rw [hsn, List.length_append]
      have HL := Lib.hid hl
      rw [hl] at hle2
      clear hl hsn hs
      go_wp2
      go_round
      case rel => exact ⟨k + 1, by omega, by go_num, by rw [HL.out]; go_num⟩
      case measure => simp [intOf]; omega
    · obtain rfl : k = ss.length := by omega
      have htk := Lib.hid (List.take_length (l := ss))
      go_wp2_with fail
      refine (growParts_nil _ w hsum).mono ?_
      rintro e w1 ⟨v, rfl, hown, hb⟩
      go_wp2
      go_loopw [6, 27] (fun z i wr => ∃ k : Nat, k ≤ ss.length ∧ i = .int .i64 k ∧ wr.ownsRow w.heap.size 44 2 z (catParts (ss.take k)).length (ptsV (catParts (ss.take k))) ∧ Below w.heap.size w wr) (fun _ i _ => ss.length - (intOf i).toNat)
      case atStart => exact ⟨0, Nat.zero_le _, rfl, hown, hb⟩
      case round =>
        obtain ⟨k, hk, rfl, hownr, hbr⟩ := hrel
        clear hown hb hle
        have hle := catParts_len ss k
        by_cases hlt : k < ss.length
        · obtain ⟨b, off, u, hA, hb, hu, hc⟩ := (h.below hbr).at_ hlt
          subst hA
          obtain ⟨s, hs⟩ : ∃ s, ss[k]? = some s := ⟨_, List.getElem?_eq_getElem hlt⟩
          rw [List.getElem?_map, hs] at hu
          cases hu
          have hrs := (HE.out s (List.mem_of_getElem? hs)).below hbr
          have hsn := catParts_snoc ss k s hs
          have hle2 := catParts_len ss (k + 1)
          have hl : (catParts (ss.take (k + 1))).length = (catParts (ss.take k)).length + s.l.length := by rw [hsn, List.length_append]
          have HL := Lib.hid hl
          have HSN := Lib.hid hsn
          rw [hl] at hle2
          clear hl hsn hs
          go_wp2_with (at_builtin; refine wpList_append_any _ rfl (.tmp 31) (.tmp 32) _ rfl w.heap.size 44 i0 (.agg #[.slice none 0 0, .slice none 0 0]) 2 48 Try.underlying22 hi hz0 hz1 hz2 rfl (by omega) _ _ _ rfl hownr w.heap.size s.A s.l.length s.c (ptsV s.l) rfl hrs ?c1 ?c2 ?c3 hbr.size ?_)
          case c1 => exact pts_one s.l
          case c2 => unfold maxLen; omega
          case c3 => omega
          · intro v' w2 hown2 hg2 hat2
            have hb2 : Below w.heap.size w w2 := hbr.grown hg2 hbr.size (fun g hg => (hownr.lt g hg).1)
            clear hg2 hat2 hownr hrs hc
            go_wp2
            go_roundw
            case rel => exact ⟨k + 1, by omega, by go_num, by rw [HL.out, HSN.out, ptsV_append]; exact hown2, hb2⟩
            case measure => simp [intOf]; omega
        · obtain rfl : k = ss.length := by omega
          go_wp2
          go_ret
          exact ⟨_, rfl, by rw [htk.out] at hownr; exact hownr, hbr⟩
end Go.Proofs.Ytkfmkemjoddinaa

/- farm.Copy: its closure. -/
namespace Go.Proofs.Ytkfmkemjoddinaa
open Go.RowKit
set_option maxRecDepth 100000

set_option maxHeartbeats 1000000 in
theorem cloneParts_any (A : Option Addr) (n c : Nat) (cs : List Value) (w : World) (h : Reads w w.heap.size 2 A n cs) (h1 : ∀ u ∈ cs, u.oneCell' = true) (hn : n * 48 ≤ 140737488355328) (hm : n ≤ 9223372036854775807) :
    Calls Try.prog 45 #[.slice A n c] w fun e w' => ∃ v, e = .returned v ∧ w'.ownsRow w.heap.size 44 2 v n cs ∧ Below w.heap.size w w' := by
  obtain ⟨i0, hi, hz0, hz1, hz2⟩ := info_parts Try.infoParts
  have hq := fun W => run_eql_slice_nil_any (P := Try.prog) W 22 44 A n c 0 0 Try.underlying22
  rcases A with _ | ad
  · have hn0 : n = 0 := by
      rcases Nat.eq_zero_or_pos n with h0 | h0
      · exact h0
      · obtain ⟨b, off, e, _⟩ := h.2 h0
        cases e
    subst hn0
    have hcs : cs = [] := List.eq_nil_of_length_eq_zero (by simpa using h.1)
    subst hcs
    go_enter Try.func45, Try.ntmps45
    go_wp2
    go_ret
    exact ⟨_, rfl, World.ownsRow_nil _ _ _ _, Below.refl _ _⟩
  · have hown : (w.alloc (.cells #[] 44)).ownsRow w.heap.size 44 2 (.slice (some ⟨w.heap.size, 0, none⟩) 0 0) 0 [] := World.ownsRow_made _ _ _ (Nat.le_refl _) (Nat.zero_le _) rfl
    have hr := h.alloc (Nat.le_refl _) (.cells #[] 44)
    go_enter Try.func45, Try.ntmps45
    go_wp2_with (at_builtin; refine wpList_append_any _ rfl (.tmp 5) (.tmp 6) _ rfl w.heap.size 44 i0 (.agg #[.slice none 0 0, .slice none 0 0]) 2 48 Try.underlying22 hi hz0 hz1 hz2 rfl (by omega) _ _ _ rfl hown w.heap.size (some ad) n c cs rfl hr h1 ?c2 ?c3 ?c4 ?_)
    case c2 => unfold maxLen; omega
    case c3 => omega
    case c4 => simp
    · intro v' w2 hown2 hg2 hat2
      have hb2 : Below w.heap.size w w2 := ((Below.refl _ _).alloc (Nat.le_refl _) _).grown hg2 (by simp) (fun g hg => (hown.lt g hg).1)
      clear hg2 hat2
      go_wp2
      go_ret
      exact ⟨_, rfl, hown2, hb2⟩


theorem pts_put {l : List PtM} {k : Nat} {p q : PtM} (hp : l[k]? = some p) : ((ptsV l).set (k * 2) (.slice q.fa q.frs.length q.fc)).set (k * 2 + 1) (.slice q.da q.dfs.length q.dc) = ptsV (l.set k q) := by
  induction l generalizing k with
  | nil => simp at hp
  | cons a r ih =>
    cases k with
    | zero => simp [ptsV, PtM.cells, PtM.frV, PtM.dfV]
    | succ k =>
      have := ih (k := k) (by simpa using hp)
      rw [show (k + 1) * 2 = k * 2 + 1 + 1 by omega]
      simp only [ptsV, List.flatMap_cons, PtM.cells, List.set_cons_succ, List.cons_append, List.nil_append] at this ⊢
      rw [this]
set_option maxHeartbeats 8000000 in
theorem copyParts_any (A : Option Addr) (c : Nat) (l : List PtM) (w : World) (h : PtsAt w w.heap.size A l) (hlm : l.length ≤ 1000) (hs : ∀ p ∈ l, p.Small) :
    Calls Try.prog 44 #[.slice A l.length c] w fun e w' => ∃ v qs, e = .returned v ∧ EV w w' w.heap.size v qs ∧ qs.map PtM.er = l.map PtM.er := by
  have HE := Lib.hid h.each
  have HS := Lib.hid hs
  clear hs
  have HC := Lib.hid (cloneParts_any A l.length c (ptsV l) w h.row (pts_one l) (by omega) (by omega))
  clear h
  go_enter Try.func44, Try.ntmps44
  go_wp2_with fail
  refine HC.out.mono ?_
  rintro e w1 ⟨v, rfl, hown, hb1⟩
  obtain ⟨A1, c1, rfl, hc1, _⟩ := own_form hown
  clear HC
  go_wp2_with fail
  go_loopw [9] (fun i wr => ∃ (k : Nat) (qs : List PtM), k ≤ l.length ∧ i = .int .i64 k ∧ wr.ownsRow w.heap.size 44 2 (.slice A1 l.length c1) l.length (ptsV (qs ++ l.drop k)) ∧ (∀ q ∈ qs, q.Own wr w.heap.size) ∧ Hid (qs.map PtM.er = (l.take k).map PtM.er) ∧ Below w.heap.size w wr) (fun i _ => l.length - (intOf i).toNat)
  case atStart => exact ⟨0, [], Nat.zero_le _, rfl, by simpa using hown, fun q hq => absurd hq (by simp), Lib.hid (by simp), hb1⟩
  case round =>
    obtain ⟨k, qs, hk, rfl, hr, hq, he, hb⟩ := hrel
    by_cases hlt : k < l.length
    · obtain ⟨p, hp⟩ : ∃ p, l[k]? = some p := ⟨_, List.getElem?_eq_getElem hlt⟩
      have hlq : qs.length = k := by have := congrArg List.length he.out; simp only [List.length_map, List.length_take] at this; omega
      have hL : (qs ++ l.drop k).length = l.length := by rw [List.length_append, List.length_drop]; omega
      have hp2 : (qs ++ l.drop k)[k]? = some p := by rw [List.getElem?_append_right (by omega), hlq, Nat.sub_self, List.getElem?_drop, Nat.add_zero]; exact hp
      have HLs : Hid (∀ q, (qs ++ l.drop k).set k q = (qs ++ [q]) ++ l.drop (k + 1)) := fun q => by
        rw [List.set_append_right _ _ (by omega), hlq, Nat.sub_self, List.drop_eq_getElem_cons hlt, List.set_cons_zero, List.append_assoc]
        rfl
      obtain ⟨L, hLe⟩ : ∃ L, L = qs ++ l.drop k := ⟨_, rfl⟩
      rw [← hLe] at hL hp2 HLs hr
      have HTK : Hid (∀ q : PtM, q.er = p.er → (qs ++ [q]).map PtM.er = (l.take (k + 1)).map PtM.er) := fun q hq => by
        rw [List.take_add_one, hp, List.map_append, List.map_append, he.out]
        simp [hq]
      have R : Reads wr wr.heap.size 2 A1 L.length (ptsV L) := by rw [hL]; exact Reads.of_own hr
      obtain ⟨g, cap, hv, hg, hgl⟩ := hr.form (by omega)
      injection hv with hA _ hcap
      subst hA hcap
      obtain ⟨b0, o0, ez, _, c0, c1⟩ := pt_get R hp2
      injection ez with ez
      injection ez with e1 e2
      subst e1 e2
      simp only [Nat.zero_add] at c0 c1
      have hP := (HE.out p (List.mem_of_getElem? hp)).keep hb hb.size
      have hPS := HS.out p (List.mem_of_getElem? hp)
      have HP2 := Lib.hid hp2
      clear R hLe hp hp2 hlq hL
      go_upto_region 5 with (fail)
      have kQ := Blk.new wr 44 #[.slice p.fa p.frs.length p.fc, .slice p.da p.dfs.length p.dc]
      have hbx : Below wr.heap.size wr (wr.alloc (.cells #[.slice (p).fa (p).frs.length (p).fc, .slice (p).da (p).dfs.length (p).dc] 44)) := by (repeat' (first | exact Below.refl _ _ | assumption | refine Below.setCell ?_ (by first | omega | exact Below.size (by assumption) | (simp; done) | (simp; omega)) _ | refine Below.alloc ?_ (by first | omega | exact Below.size (by assumption) | (simp; done) | (simp; omega)) _ | refine Below.drew ?_ | refine below_drewN ?_ _))
      replace hP := hP.all hbx
      replace hr := own_all hr hbx
      replace hb := hb.trans (hbx.mono hb.size)
      have HQ : Hid (∀ q ∈ qs, q.Own (wr.alloc (.cells #[.slice (p).fa (p).frs.length (p).fc, .slice (p).da (p).dfs.length (p).dc] 44)) w.heap.size) := fun q h => (hq q h).all hbx
      obtain ⟨gQ, hgQ⟩ : ∃ g, g = wr.heap.size := ⟨_, rfl⟩
      obtain ⟨W6, hW6⟩ : ∃ W, W = wr.alloc (.cells #[.slice (p).fa (p).frs.length (p).fc, .slice (p).da (p).dfs.length (p).dc] 44) := ⟨_, rfl⟩
      rw [← hgQ] at kQ ⊢
      rw [← hW6] at kQ hP hr hb HQ ⊢
      clear hW6 hgQ hbx c0 c1 hq
      have x0 := kQ.cell 0
      have x1 := kQ.cell 1
      go_wp2_with fail
      refine (copy_any p W6 hP hPS).mono ?_
      rintro e w7 ⟨q, rfl, hqo, hqe, hb7⟩
      replace hr := own_all hr hb7
      have hqo2 := hqo.mono hb.size
      replace hb := hb.trans (hb7.mono hb.size)
      have HQ7 : Hid (∀ q ∈ qs, q.Own w7 w.heap.size) := fun y h => (HQ.out y h).all hb7
      have kR : ∃ cur, Blk w7 g 44 cur := by
        rcases hr with ⟨_, ⟨h0, _⟩ | ⟨g', cap', cur, e, _, hgb, _⟩⟩
        · cases h0
        · injection e with e _ _
          injection e with e
          injection e with e1 _
          subst e1
          exact ⟨cur, hgb⟩
      obtain ⟨cur, kR⟩ := kR
      have R7 := Reads.of_own hr
      obtain ⟨LL, hLL⟩ : ∃ n, n = l.length := ⟨_, rfl⟩
      have f0 := kR.frozen (k * 2)
      have f1 := kR.frozen (k * 2 + 1)
      have hcs : ∃ u v, w7.cell? ⟨g, k * 2, none⟩ = some u ∧ w7.cell? ⟨g, k * 2 + 1, none⟩ = some v := by
        obtain ⟨b0, o0, ez, _, hc⟩ := R7.2 (by omega)
        injection ez with ez
        injection ez with e1 e2
        subst e1 e2
        have hl2 := R7.1
        refine ⟨(ptsV L)[k * 2], (ptsV L)[k * 2 + 1], ?_, ?_⟩
        · have := hc (k * 2) _ (List.getElem?_eq_getElem (by omega))
          simpa using this
        · have := hc (k * 2 + 1) _ (List.getElem?_eq_getElem (by omega))
          simpa using this
      obtain ⟨u0, v0, d0, d1⟩ := hcs
      have s1 := hr.stored (k * 2) (.slice q.fa q.frs.length q.fc)
      have s2 := s1.1.stored (k * 2 + 1) (.slice q.da q.dfs.length q.dc)
      have hr9 := s2.1
      rw [pts_put HP2.out, HLs.out] at hr9
      have HQ9 : Hid (∀ y ∈ qs ++ [q], y.Own ((w7.setCell ⟨g, k * 2, none⟩ (.slice q.fa q.frs.length q.fc)).setCell ⟨g, k * 2 + 1, none⟩ (.slice q.da q.dfs.length q.dc)) w.heap.size) := fun y hy => by
        have hy7 : y.Own w7 w.heap.size := by
          rcases List.mem_append.1 hy with hy | hy
          · exact HQ7.out y hy
          · obtain rfl := List.mem_singleton.1 hy
            exact hqo2
        exact (hy7.blk kR (by decide) (by decide) (by decide) (by decide) _).blk (kR.set_ (k * 2) _) (by decide) (by decide) (by decide) (by decide) _
      have hb9 := (hb.setCell (p := ⟨g, k * 2, none⟩) hg (.slice q.fa q.frs.length q.fc)).setCell (p := ⟨g, k * 2 + 1, none⟩) hg (.slice q.da q.dfs.length q.dc)
      have HT9 := Lib.hid (HTK.out q hqe)
      clear s1 s2 R7 hr hLL kR hqo hqo2 x0 x1 hP
      go_wp2
      go_roundw
      case rel => exact ⟨k + 1, qs ++ [q], by omega, by go_num, hr9, HQ9.out, HT9, hb9⟩
      case measure => simp [intOf]; omega
    · obtain rfl : k = l.length := by omega
      go_wp2
      go_ret
      rw [List.drop_length, List.append_nil] at hr
      rw [List.take_length] at he
      have hl : qs.length = l.length := by have := congrArg List.length he.out; simpa using this
      exact ⟨_, qs, rfl, ⟨by rw [hl]; exact hr, hq, hb, hb.size⟩, he.out⟩
end Go.Proofs.Ytkfmkemjoddinaa
