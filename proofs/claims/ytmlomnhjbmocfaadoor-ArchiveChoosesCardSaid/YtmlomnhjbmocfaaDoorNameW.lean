/- names.Wanted, names.Defined: what they compute. -/
import Derived.Test.YtmlomnhjbmocfaaDoorSortW
import Derived.Test.YtmlomnhjbmocfaaDoorFindW
import Derived.Test.YtmlomnhjbmocfaaDoorGroupsW
set_option linter.all false
namespace Go.Proofs.YtmlomnhjbmocfaaDoor
open Go.RowKit

def setS (l : List ByteArray) : List ByteArray := compS (sortS l)
def wantedF (f : Frg) : List ByteArray := (f.rs.filter fun r => decide (r.name.size ≠ 0)).map Rel.name
def wantedP (p : Prt) : List ByteArray := setS (p.frs.flatMap wantedF)
def definedP (p : Prt) : List ByteArray := setS (p.dfs.map Df.name)
theorem setS_len (l : List ByteArray) : (setS l).length ≤ l.length := Nat.le_trans (compS_len _) (by rw [sortS_len]; exact Nat.le_refl _)

theorem wanted_no {r : Rel} (h : r.name.size = 0) : (([r] : List Rel).filter fun r => decide (r.name.size ≠ 0)).map Rel.name = [] := by
  rw [List.filter_cons_of_neg (by rw [decide_eq_false (fun hn => hn h)]; decide)]; rfl
theorem wanted_one {r : Rel} (h : 0 < r.name.size) : (([r] : List Rel).filter fun r => decide (r.name.size ≠ 0)).map Rel.name = [r.name] := by
  rw [List.filter_cons_of_pos (by rw [decide_eq_true (show r.name.size ≠ 0 by omega)])]; rfl
/-- A row of strings, or an error. -/
def StrsRes (w : World) (p : Prt) (l : List ByteArray) (e : Ending) (w' : World) : Prop :=
  ∃ v, e = .returned (.tuple #[v, .int .i64 (ckPart p)]) ∧ (ckPart p ≠ 0 → v = .slice none 0 0) ∧ (ckPart p = 0 → w'.ownsRow w.heap.size 9 1 v l.length (strsV l)) ∧ Below w.heap.size w w'
theorem below_row {w wr w' : World} {base n : Nat} {t : TypeId} {v : Value} {xs : List Value} (hb : Below base w wr) (hB : base ≤ wr.heap.size) (h : wr.ownsRow base t 1 v n xs) (hg : wr.grownBy w' v.ownBlock) : Below base w w' :=
  hb.grown hg hB (fun g hg' => (h.lt g hg').1)

set_option maxHeartbeats 4000000 in
set_option maxRecDepth 100000 in
theorem defined_any (p : PtM) (w : World) (h : p.At w w.heap.size) :
    Calls Tryd.prog 75 #[.agg #[.slice p.fa p.frs.length p.fc, .slice p.da p.dfs.length p.dc]] w (StrsRes w p.er (definedP p.er)) := by
  obtain ⟨i0, hi, hz0, hz1, hz2⟩ := info_parts Tryd.infoStr
  have hb0 : Below w.heap.size w (w.alloc (.cells #[.slice (p).fa (p).frs.length (p).fc, .slice (p).da (p).dfs.length (p).dc] 25)) := by (repeat' (first | exact Below.refl _ _ | assumption | refine Below.setCell ?_ (by first | omega | exact Below.size (by assumption) | (simp; done) | (simp; omega)) _ | refine Below.alloc ?_ (by first | omega | exact Below.size (by assumption) | (simp; done) | (simp; omega)) _ | refine Below.drew ?_ | refine below_drewN ?_ _))
  have hP := Blk.new w 25 #[.slice p.fa p.frs.length p.fc, .slice p.da p.dfs.length p.dc]
  have h1 := h.all hb0
  unfold StrsRes
  by_cases hc : ckPart p.er = 0
  · have hsm := (small_of hc).df
    have HC := Lib.hid hc
    go_enter Tryd.func75, Tryd.ntmps75
    go_wp2_with fail
    refine (check_any p _ h1).mono ?_
    rintro e w1 ⟨rfl, hb1⟩
    rw [HC.out]
    have kP := hP.all hb1
    have hb := hb0.trans (hb1.mono hb0.size)
    have hd := (h.all hb).df
    have p1 := kP.cell 1
    clear hc hP h1 hb0 hb1 kP
    go_wp2_with fail
    clear p1
    go_loopw [5, 16] (fun v i wr => ∃ k : Nat, k ≤ p.dfs.length ∧ i = .int .i64 k ∧ wr.ownsRow w.heap.size 9 1 v k (strsV ((p.dfs.take k).map Df.name)) ∧ Below w.heap.size w wr) (fun _ i _ => p.dfs.length - (intOf i).toNat)
    case atStart => exact ⟨0, Nat.zero_le _, rfl, World.ownsRow_nil _ _ _ _, hb⟩
    case round =>
      have hb1 := hb
      clear hb
      obtain ⟨k, hk, rfl, hown, hb⟩ := hrel
      obtain ⟨A1, c1', rfl, hc1, hc2⟩ := own_form hown
      by_cases hlt : k < p.dfs.length
      · obtain ⟨d, hd'⟩ : ∃ d, p.dfs[k]? = some d := ⟨_, List.getElem?_eq_getElem hlt⟩
        obtain ⟨b, off, hda, bl, c0, c1, c2, c3, c4, c5⟩ := df_get ((h.keep hb hb.size).df) hd'
        have HN : Hid (strsV ((p.dfs.take (k + 1)).map Df.name) = strsV ((p.dfs.take k).map Df.name) ++ [.string d.name]) := by
          show _ = _
          rw [List.take_add_one, hd', List.map_append, strsV_append]; rfl
        rw [hda]
        clear hd'
        go_wp2_with (at_builtin
                     refine wpList_append_own _ rfl (.tmp 20) (.tmp 23) 27 rfl w.heap.size 9 i0 (.string ⟨#[]⟩) 1 16 Tryd.underlying27 hi hz0 hz1 hz2 rfl (by decide) _ _ _ rfl ((hown.alloc _).alloc _) ⟨_, 0, none⟩ 1 1 [.string d.name] rfl rfl ?c1 ?c2 ?c3 ?c4 ?c5 ?_
                     case c1 => exact one_cell3
                     case c2 => intro u hu; simp at hu; subst hu; rfl
                     case c3 => unfold maxLen; omega
                     case c4 => omega
                     case c5 => have := hb.size; simp; omega
                     intro v' w3 hown3 hg3 _
                     obtain ⟨hp3, hz3⟩ := own_push (hown.alloc _) hg3 (by have := hb.size; simp; omega)
                     have RB : Below w.heap.size w w3 := (hb.alloc hb.size _).trans hp3
                     clear hp3 hg3 hown)
        go_roundw
        case rel => exact ⟨k + 1, by omega, by go_num, by rw [HN.out]; exact hown3, RB⟩
        case measure => simp [intOf]; omega
      · obtain rfl : k = p.dfs.length := by omega
        rw [List.take_length] at hown
        go_wp2_with fail
        (refine (sort_own hown (by omega)).mono ?_; rintro e w2 ⟨rfl, hown2, hg2⟩; have hb2 := below_row hb hb.size hown hg2; go_wp2_with fail; refine (compact_own hown2 (by omega)).mono ?_; rintro e w3 ⟨v', rfl, hown3, hg3⟩; have hb3 := below_row hb2 hb2.size hown2 hg3; go_wp2; go_ret2; exact ⟨v', by rw [HC.out]; rfl, fun hn => absurd HC.out hn, fun _ => hown3, hb3⟩)
  · have HC := Lib.hid hc
    obtain ⟨n, hn⟩ : ∃ n, ckPart p.er = n := ⟨_, rfl⟩
    have hn0 : (n != 0) = true := by rw [hn] at hc; simpa using hc
    have HN := Lib.hid hn
    clear hc hn
    go_enter Tryd.func75, Tryd.ntmps75
    go_wp2_with fail
    refine (check_any p _ h1).mono ?_
    rintro e w1 ⟨rfl, hb1⟩
    rw [HN.out]
    go_wp2
    go_ret2
    exact ⟨_, by rw [HN.out]; rfl, fun _ => rfl, fun hn => absurd hn HC.out, hb0.trans (hb1.mono hb0.size)⟩

set_option maxHeartbeats 8000000 in
set_option maxRecDepth 100000 in
theorem wanted_any (p : PtM) (w : World) (h : p.At w w.heap.size) :
    Calls Tryd.prog 82 #[.agg #[.slice p.fa p.frs.length p.fc, .slice p.da p.dfs.length p.dc]] w (StrsRes w p.er (wantedP p.er)) := by
  obtain ⟨i0, hi, hz0, hz1, hz2⟩ := info_parts Tryd.infoStr
  have hb0 : Below w.heap.size w (w.alloc (.cells #[.slice (p).fa (p).frs.length (p).fc, .slice (p).da (p).dfs.length (p).dc] 25)) := by (repeat' (first | exact Below.refl _ _ | assumption | refine Below.setCell ?_ (by first | omega | exact Below.size (by assumption) | (simp; done) | (simp; omega)) _ | refine Below.alloc ?_ (by first | omega | exact Below.size (by assumption) | (simp; done) | (simp; omega)) _ | refine Below.drew ?_ | refine below_drewN ?_ _))
  have hP := Blk.new w 25 #[.slice p.fa p.frs.length p.fc, .slice p.da p.dfs.length p.dc]
  have h1 := h.all hb0
  unfold StrsRes
  by_cases hc : ckPart p.er = 0
  · have hsm := small_of hc
    have hn60 := hsm.fr
    have HS8 : Hid (∀ x ∈ p.frs, x.f.rs.length ≤ 8) := hsm.re
    have HC := Lib.hid hc
    go_enter Tryd.func82, Tryd.ntmps82
    go_wp2_with fail
    refine (check_any p _ h1).mono ?_
    rintro e w1 ⟨rfl, hb1⟩
    rw [HC.out]
    have kP := hP.all hb1
    have hb := hb0.trans (hb1.mono hb0.size)
    have p0 := kP.cell 0
    clear hc hP h1 hb0 hb1 kP
    go_wp2_with fail
    clear p0
    go_loopw [5, 18] (fun v i wr => ∃ (k : Nat) (l : List ByteArray), k ≤ p.frs.length ∧ i = .int .i64 k ∧ Hid (l = (p.frs.take k).flatMap fun x => wantedF x.f) ∧ l.length ≤ k * 8 ∧ wr.ownsRow w.heap.size 9 1 v l.length (strsV l) ∧ Below w.heap.size w wr) (fun _ i _ => p.frs.length - (intOf i).toNat)
    case atStart => exact ⟨0, [], Nat.zero_le _, rfl, Lib.hid (by simp), Nat.zero_le _, World.ownsRow_nil _ _ _ _, hb⟩
    case round =>
      clear hb
      obtain ⟨k, l, hk, rfl, hl, hll, hown, hb⟩ := hrel
      obtain ⟨wo, hwo⟩ : ∃ wo, wo = wr := ⟨_, rfl⟩
      subst hwo
      obtain ⟨A1, c1', rfl, hc1, hc2⟩ := own_form hown
      by_cases hlt : k < p.frs.length
      · obtain ⟨x, hx⟩ : ∃ x, p.frs[k]? = some x := ⟨_, List.getElem?_eq_getElem hlt⟩
        have hx8 := HS8.out x (List.mem_of_getElem? hx)
        have hgx := h.each x (List.mem_of_getElem? hx)
        obtain ⟨b, off, hfa, bl, c0, c1, c2, c3, c4, c5⟩ := fg_get ((h.keep hb hb.size).fr) hx
        have HN : Hid ((p.frs.take (k + 1)).flatMap (fun x => wantedF x.f) = l ++ wantedF x.f) := by
          show _ = _
          rw [List.take_add_one, hx, List.flatMap_append, hl.out]; simp
        rw [hfa]
        clear hx
        go_upto_region 8 with (fail)
        have hown2 := hown.alloc (.cells #[.int .i64 x.f.sect, .int .i64 x.f.align, .string x.f.group, .slice x.ba x.f.bs.length x.bc, .int .i64 x.f.size, .slice x.ra x.f.rs.length x.rc] 63)
        have hF2 := Blk.new wo 63 #[.int .i64 x.f.sect, .int .i64 x.f.align, .string x.f.group, .slice x.ba x.f.bs.length x.bc, .int .i64 x.f.size, .slice x.ra x.f.rs.length x.rc]
        have hb2 := hb.alloc hb.size (.cells #[.int .i64 x.f.sect, .int .i64 x.f.align, .string x.f.group, .slice x.ba x.f.bs.length x.bc, .int .i64 x.f.size, .slice x.ra x.f.rs.length x.rc] 63)
        obtain ⟨W2, hW2⟩ : ∃ W, W = wo.alloc (.cells #[.int .i64 x.f.sect, .int .i64 x.f.align, .string x.f.group, .slice x.ba x.f.bs.length x.bc, .int .i64 x.f.size, .slice x.ra x.f.rs.length x.rc] 63) := ⟨_, rfl⟩
        rw [← hW2] at hown2 hF2 hb2 ⊢
        clear hW2 hown hb c0 c1 c2 c3 c4 c5 bl
        have d5 := hF2.cell 5
        go_wp2_with fail
        clear d5 hF2
        go_loopw [5, 25] (fun v i wr => ∃ (j : Nat) (m : List ByteArray), j ≤ x.f.rs.length ∧ i = .int .i64 j ∧ Hid (m = l ++ ((x.f.rs.take j).filter fun r => decide (r.name.size ≠ 0)).map Rel.name) ∧ m.length ≤ k * 8 + j ∧ wr.ownsRow w.heap.size 9 1 v m.length (strsV m) ∧ Below w.heap.size w wr) (fun _ i _ => x.f.rs.length - (intOf i).toNat)
        case atStart => exact ⟨0, l, Nat.zero_le _, rfl, Lib.hid (by simp), by omega, hown2, hb2⟩
        case round =>
          clear hown2 hb2
          obtain ⟨j, m, hj, rfl, hm, hml, hown, hb⟩ := hrel
          obtain ⟨A2, c2', rfl, hc3, hc4⟩ := own_form hown
          by_cases hjl : j < x.f.rs.length
          · obtain ⟨r, hr⟩ : ∃ r, x.f.rs[j]? = some r := ⟨_, List.getElem?_eq_getElem hjl⟩
            obtain ⟨g', o', hra, bl', c0, c1, c2, c3, c4⟩ := rel_get (((hgx.keep hb hb.size)).re) hr
            rw [hra]
            rcases Nat.eq_zero_or_pos r.name.size with hn0 | hn0
            · have HM : Hid (m = l ++ ((x.f.rs.take (j + 1)).filter fun r => decide (r.name.size ≠ 0)).map Rel.name) := by
                show _ = _
                rw [List.take_add_one, hr, List.filter_append, List.map_append, ← List.append_assoc, ← hm.out, Option.toList_some, wanted_no hn0, List.append_nil]
              have tn := toList_nil hn0
              clear hr hn0 hm
              go_wp2
              go_roundw
              case rel => exact ⟨j + 1, m, by omega, by go_num, HM, by omega, hown.alloc _, by (repeat' (first | exact Below.refl _ _ | assumption | refine Below.setCell ?_ (by first | omega | exact Below.size (by assumption) | (simp; done) | (simp; omega)) _ | refine Below.alloc ?_ (by first | omega | exact Below.size (by assumption) | (simp; done) | (simp; omega)) _ | refine Below.drew ?_ | refine below_drewN ?_ _))⟩
              case measure => simp [intOf]; omega
            · have HM : Hid (m ++ [r.name] = l ++ ((x.f.rs.take (j + 1)).filter fun r => decide (r.name.size ≠ 0)).map Rel.name) := by
                show _ = _
                rw [List.take_add_one, hr, List.filter_append, List.map_append, ← List.append_assoc, ← hm.out, Option.toList_some, wanted_one hn0]
              have tn := toList_one hn0
              have tn' := toList_some hn0
              clear hr hn0 hm
              go_wp2_with (at_builtin
                           refine wpList_append_own _ rfl (.tmp 32) (.tmp 35) 27 rfl w.heap.size 9 i0 (.string ⟨#[]⟩) 1 16 Tryd.underlying27 hi hz0 hz1 hz2 rfl (by decide) _ _ _ rfl ((hown.alloc _).alloc _) ⟨_, 0, none⟩ 1 1 [.string r.name] rfl rfl ?c1 ?c2 ?c3 ?c4 ?c5 ?_
                           case c1 => exact one_cell3
                           case c2 => intro u hu; simp at hu; subst hu; rfl
                           case c3 => unfold maxLen; omega
                           case c4 => omega
                           case c5 => have := hb.size; simp; omega
                           intro v' w3 hown3 hg3 _
                           obtain ⟨hp3, hz3⟩ := own_push (hown.alloc _) hg3 (by have := hb.size; simp; omega)
                           have RB : Below w.heap.size w w3 := (hb.alloc hb.size _).trans hp3
                           clear hp3 hg3 hown)
              go_roundw
              case rel => exact ⟨j + 1, m ++ [r.name], by omega, by go_num, HM, by rw [List.length_append]; show m.length + 1 ≤ _; omega, by rw [strsV_append, List.length_append]; exact hown3, RB⟩
              case measure => simp [intOf]; omega
          · obtain rfl : j = x.f.rs.length := by omega
            have HM : Hid (m = (p.frs.take (k + 1)).flatMap fun x => wantedF x.f) := by
              show _ = _
              rw [HN.out, hm.out, List.take_length]; rfl
            clear hm
            go_wp2
            go_roundw
            case rel => exact ⟨k + 1, m, by omega, by go_num, HM, by omega, hown, hb⟩
            case measure => simp [intOf]; omega
      · obtain rfl : k = p.frs.length := by omega
        have HL : Hid (setS l = wantedP p.er) := by
          show _ = _
          rw [hl.out, List.take_length]
          unfold wantedP PtM.er
          rw [List.flatMap_map]
        go_wp2_with fail
        refine (sort_own hown (by omega)).mono ?_
        rintro e w2 ⟨rfl, hown2, hg2⟩
        have hb2 := below_row hb hb.size hown hg2
        go_wp2_with fail
        refine (compact_own hown2 (by omega)).mono ?_
        rintro e w3 ⟨v', rfl, hown3, hg3⟩
        have hb3 := below_row hb2 hb2.size hown2 hg3
        go_wp2
        go_ret2
        exact ⟨v', by rw [HC.out]; rfl, fun hn => absurd HC.out hn, fun _ => by rw [← HL.out]; exact hown3, hb3⟩
  · have HC := Lib.hid hc
    obtain ⟨n, hn⟩ : ∃ n, ckPart p.er = n := ⟨_, rfl⟩
    have hn0 : (n != 0) = true := by rw [hn] at hc; simpa using hc
    have HN := Lib.hid hn
    clear hc hn
    go_enter Tryd.func82, Tryd.ntmps82
    go_wp2_with fail
    refine (check_any p _ h1).mono ?_
    rintro e w1 ⟨rfl, hb1⟩
    rw [HN.out]
    go_wp2
    go_ret2
    exact ⟨_, by rw [HN.out]; rfl, fun _ => rfl, fun hn => absurd hn HC.out, hb0.trans (hb1.mono hb0.size)⟩
end Go.Proofs.YtmlomnhjbmocfaaDoor
