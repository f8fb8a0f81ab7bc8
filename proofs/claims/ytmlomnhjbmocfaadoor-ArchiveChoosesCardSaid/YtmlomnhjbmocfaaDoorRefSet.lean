/- ropewalkref.set, WantedBy, DefinedBy: what they compute. -/
import Derived.Test.YtmlomnhjbmocfaaDoorSetT
import Derived.Test.YtmlomnhjbmocfaaDoorArcD
import Derived.Test.YtmlomnhjbmocfaaDoorNameW
set_option linter.all false
namespace Go.Proofs.YtmlomnhjbmocfaaDoor
open Go.RowKit Go.Maps Go.Sort

theorem sortStrings_own {w : World} {base n : Nat} {v : Value} {l : List ByteArray} (h : w.ownsRow base 9 1 v n (strsV l)) (hn : n < 4611686018427387904) :
    Calls Tryd.prog 110 #[v] w fun e w' => e = .returned (.tuple #[]) ∧ w'.ownsRow base 9 1 v n (strsV (sortS l)) ∧ w.grownBy w' v.ownBlock := by
  have H := Lib.hid (sort_own h hn)
  clear h
  go_enter Tryd.func110, Tryd.ntmps110
  go_wp2_with fail
  refine H.out.mono ?_
  rintro e w' ⟨rfl, h1, h2⟩
  go_wp2
  first | go_end0 | refine bodyPost_ret (results_none rfl _ _ _) rfl ?_
  exact ⟨rfl, h1, h2⟩

set_option maxHeartbeats 4000000 in
set_option maxRecDepth 100000 in
theorem refSet_any {g n : Nat} {S : List ByteArray} (w : World) (h : SetT w g n S) (hn : n ≤ 1000000) :
    Calls Tryd.prog 78 #[.map (some g)] w fun e w' => ∃ v, e = .returned v ∧ w'.ownsRow w.heap.size 9 1 v (setS S).length (strsV (setS S)) ∧ Below w.heap.size w w' := by
  obtain ⟨i0, hi, hz0, hz1, hz2⟩ := info_parts Tryd.infoStr
  obtain ⟨D0, hown, ha⟩ := h
  have hsz := size_le hown
  have hbl := hown.lt
  have HA := Lib.hid ha
  clear ha
  go_enter Tryd.func78, Tryd.ntmps78
  go_wp2_with (at_range; refine wpList_range_own _ rfl _ 81 rfl 9 4 nm_keyed Tryd.underlying81 _ g n _ rfl hown ?_; intro w0 hrg0 hg0 hs0)
  go_frame
  have hb0 : Below w.heap.size w w0 := (Below.refl _ _).grown hg0 (Nat.le_refl _) (fun j hj => by cases hj)
  clear hs0 hg0
  go_loopw [3] (fun v wr => ∃ (left : Lit → Bool) (cnt : Nat) (ss : List (List UInt8)), wr.ranges Tryd.prog 9 (plainElem Tryd.prog 4) g w.heap.size n D0 left cnt ∧ ss.length + cnt ≤ Maps.size D0 ∧
      wr.ownsRow w.heap.size 9 1 v ss.length (strsV (ss.map ofKey)) ∧ Collected D0 left ss ∧ Below w.heap.size w wr)
    (fun _ wr => wr.rangeLeft g w.heap.size)
  case atStart => exact ⟨_, _, [], hrg0, by simp, World.ownsRow_nil _ _ _ _, Collected.start D0, hb0⟩
  case round =>
    clear hrg0 hb0
    obtain ⟨left, cnt, ss, hrg, hcs, hrow, hC, hnx⟩ := hrel
    obtain ⟨A1, c1', rfl, hc1, hc2⟩ := own_form hrow
    go_wp2_with (at_next; refine wpList_next_ranges _ rfl _ rfl 9 nm_keyed (plainElem Tryd.prog 4) encStr (fun v : Value => v) (fun key kl hk => by obtain ⟨x, hx, _⟩ := Maps.keyOf_str Tryd.underlying9 hk; exact ⟨x, hx⟩) (fun v y hv => ⟨v, rfl⟩) g w.heap.size n _ _ _ rfl hrg ?_ ?_)
    · intro hc0 hl0
      have HL : Hid (sortS (ss.map ofKey) = setS S) := collected_sorted HA.out hC hl0
      have hlen : (setS S).length = ss.length := by rw [← HL.out, sortS_len, List.length_map]
      have HLN := Lib.hid hlen
      have hss : ss.length ≤ 1000000 := by omega
      clear hrg hcs hC hl0 hlen
      go_wp2_with fail
      refine (sortStrings_own hrow (by omega)).mono ?_
      rintro e w2 ⟨rfl, hown2, hg2⟩
      have hb2 := below_row hnx hnx.size hrow hg2
      go_wp2
      go_ret
      refine ⟨_, rfl, ?_, hb2⟩
      rw [HLN.out, ← HL.out]
      exact hown2
    · intro x c kl yd yp w2 cnt2 hkey hlk hv hat hrg2 hlt hg2 hs2 hen
      obtain ⟨x', ex, rfl, _⟩ := Maps.keyOf_str Tryd.underlying9 hkey
      obtain rfl : x = x' := encStr_inj ex
      have hrow2 := hrow.kept hg2 (Or.inr (row_ne_iter hrow hrg).symm)
      have hsz2 := hnx.size
      have hb2 := hnx.grown hg2 hnx.size (fun j hj => by cases hj; exact Nat.le_refl _)
      have hle := hrg.left_eq
      clear hs2
      go_wp2_with (at_builtin
                   refine wpList_append_own _ rfl (.tmp 11) (.tmp 13) 27 rfl w.heap.size 9 i0 (.string ⟨#[]⟩) 1 16 Tryd.underlying27 hi hz0 hz1 hz2 rfl (by decide) _ _ _ rfl (hrow2.alloc _) ⟨w2.heap.size, 0, none⟩ 1 1 [encStr x] rfl rfl ?c1 ?c2 ?c3 ?c4 ?c5 ?_
                   case c1 => exact cell_one_new _ _ _
                   case c2 => intro u hu; simp [encStr] at hu; subst hu; rfl
                   case c3 => unfold maxLen; omega
                   case c4 => omega
                   case c5 => have := hb2.size; simp; omega
                   intro v' w3 hown' hg3 _)
      have hrg3 := (hrg2.alloc _).kept hg3 (row_ne_low hrow2 hbl) (row_ne_iter hrow2 hrg2)
      have hb3 := (hb2.alloc hb2.size _).grown hg3 (by have := hb2.size; simp; omega) (fun j hj => (hrow2.lt j hj).1)
      go_roundw
      case rel => exact ⟨_, cnt2, ss ++ [x], hrg3, by simp; omega, by simpa [strsV, encStr, ofKey, strV] using hown', hC.step hlk hat, hb3⟩
      case measure => rw [hrg3.left_eq, hle]; exact hlt

set_option maxHeartbeats 4000000 in
set_option maxRecDepth 100000 in
theorem definedBy_any (p : PtM) (w : World) (h : p.At w w.heap.size) (hc : ckPart p.er = 0) :
    Calls Tryd.prog 37 #[.agg #[.slice p.fa p.frs.length p.fc, .slice p.da p.dfs.length p.dc]] w
      fun e w' => ∃ v, e = .returned v ∧ w'.ownsRow w.heap.size 9 1 v (definedP p.er).length (strsV (definedP p.er)) ∧ Below w.heap.size w w' := by
  have hmm := @run_makeMap Tryd.prog
  have kP := (Blk.new w 25 #[.slice p.fa p.frs.length p.fc, .slice p.da p.dfs.length p.dc]).alloc (.map #[] 0)
  have hb0 : Below w.heap.size w (w.alloc (.cells #[.slice (p).fa (p).frs.length (p).fc, .slice (p).da (p).dfs.length (p).dc] 25)) := by (repeat' (first | exact Below.refl _ _ | assumption | refine Below.setCell ?_ (by first | omega | exact Below.size (by assumption) | (simp; done) | (simp; omega)) _ | refine Below.alloc ?_ (by first | omega | exact Below.size (by assumption) | (simp; done) | (simp; omega)) _ | refine Below.drew ?_ | refine below_drewN ?_ _))
  have hS0 := SetT.new (w.alloc (.cells #[.slice (p).fa (p).frs.length (p).fc, .slice (p).da (p).dfs.length (p).dc] 25))
  have hd60 : p.dfs.length ≤ 60 := (small_of hc).df
  have HDN : Hid (∀ d ∈ p.dfs, d.name.size ≤ 8) := fun d hd => nameB_short (def_name hc hd)
  have h1 := h.all hb0
  go_enter Tryd.func37, Tryd.ntmps37
  go_upto_region 2 with (fail)
  have hb1 := hb0.alloc hb0.size (.map #[] 0)
  obtain ⟨g, hg⟩ : ∃ g, g = (w.alloc (.cells #[.slice (p).fa (p).frs.length (p).fc, .slice (p).da (p).dfs.length (p).dc] 25)).heap.size := ⟨_, rfl⟩
  have hgw : w.heap.size ≤ g := by rw [hg]; exact hb0.size
  have hg1 : g = w.heap.size + 1 := by rw [hg]; simp
  obtain ⟨W, hW⟩ : ∃ y, y = (w.alloc (.cells #[.slice (p).fa (p).frs.length (p).fc, .slice (p).da (p).dfs.length (p).dc] 25)).alloc (.map #[] 0) := ⟨_, rfl⟩
  rw [← hg, ← hW] at hS0
  try rw [show w.heap.size + 1 = g from hg1.symm]
  rw [← hW] at kP hb1 ⊢
  clear hW hg hg1 h1 hb0 hmm hc
  have p1 := kP.cell 1
  go_wp2_with fail
  clear p1 kP
  go_loopw [10] (fun i wr => ∃ (k : Nat) (S : List ByteArray), k ≤ p.dfs.length ∧ i = .int .i64 k ∧ SetT wr g k S ∧ Hid (∀ x, x ∈ S ↔ x ∈ (p.dfs.take k).map Df.name) ∧ Below w.heap.size w wr) (fun i _ => p.dfs.length - (intOf i).toNat)
  case atStart => exact ⟨0, [], Nat.zero_le _, rfl, hS0, Lib.hid (by simp), hb1⟩
  case round =>
    clear hS0 hb1
    obtain ⟨k, S, hk, rfl, hset, hS, hb⟩ := hrel
    by_cases hlt : k < p.dfs.length
    · obtain ⟨d, hd⟩ : ∃ d, p.dfs[k]? = some d := ⟨_, List.getElem?_eq_getElem hlt⟩
      obtain ⟨b, off, hda, bl, c0, c1, c2, c3, c4, c5⟩ := df_get ((h.keep hb hb.size).df) hd
      have hds := HDN.out d (List.mem_of_getElem? hd)
      have HM : Hid (∀ x, x ∈ d.name :: S ↔ x ∈ (p.dfs.take (k + 1)).map Df.name) := fun x => by
        rw [List.take_add_one, hd, List.map_append, List.mem_append, List.mem_cons, hS.out x]
        simp [or_comm]
      rw [hda]
      clear hd
      go_upto_region 5 with (fail)
      have kD := Blk.new wr 70 #[.string (d).name, .int .i64 (d).kind, .int .i64 (d).frag, .int .i64 (d).at_, .int .i64 (d).size, .int .i64 (d).align]
      have hset2 := hset.alloc (.cells #[.string (d).name, .int .i64 (d).kind, .int .i64 (d).frag, .int .i64 (d).at_, .int .i64 (d).size, .int .i64 (d).align] 70)
      have hb2 := hb.alloc hb.size (.cells #[.string (d).name, .int .i64 (d).kind, .int .i64 (d).frag, .int .i64 (d).at_, .int .i64 (d).size, .int .i64 (d).align] 70)
      obtain ⟨gd, hgd⟩ : ∃ y, y = wr.heap.size := ⟨_, rfl⟩
      obtain ⟨w2, hw2⟩ : ∃ y, y = wr.alloc (.cells #[.string (d).name, .int .i64 (d).kind, .int .i64 (d).frag, .int .i64 (d).at_, .int .i64 (d).size, .int .i64 (d).align] 70) := ⟨_, rfl⟩
      rw [← hgd] at kD ⊢
      rw [← hw2] at kD hset2 hb2 ⊢
      clear hw2 hgd hset hb c0 c1 c2 c3 c4 c5
      have d0 := kD.cell 0
      go_wp2_with (at_mapUpdate; refine wpList_setPutT _ rfl _ _ _ rfl g k _ hset2 rfl (by omega) d.name rfl rfl (by omega) ?_; intro w3 hs3 hg3)
      have hb3 := hb2.grown hg3 hb2.size (fun j hj => by cases hj; exact hgw)
      go_roundw
      case rel => exact ⟨k + 1, d.name :: S, by omega, by go_num, hs3, HM, hb3⟩
      case measure => simp [intOf]; omega
    · obtain rfl : k = p.dfs.length := by omega
      have HE : Hid (setS S = definedP p.er) := setS_congr fun x => by rw [hS.out x, List.take_length]; rfl
      go_wp2_with fail
      refine (refSet_any wr hset (by omega)).mono ?_
      rintro e w2 ⟨v, rfl, hown, hb2⟩
      rw [HE.out] at hown
      have hown2 := hown.mono hb.size
      have hb3 := hb.trans (hb2.mono hb.size)
      go_wp2
      go_ret
      exact ⟨_, rfl, hown2, hb3⟩

set_option maxHeartbeats 8000000 in
set_option maxRecDepth 100000 in
theorem wantedBy_any (p : PtM) (w : World) (h : p.At w w.heap.size) (hc : ckPart p.er = 0) :
    Calls Tryd.prog 54 #[.agg #[.slice p.fa p.frs.length p.fc, .slice p.da p.dfs.length p.dc]] w
      fun e w' => ∃ v, e = .returned v ∧ w'.ownsRow w.heap.size 9 1 v (wantedP p.er).length (strsV (wantedP p.er)) ∧ Below w.heap.size w w' := by
  have hmm := @run_makeMap Tryd.prog
  have kP := (Blk.new w 25 #[.slice p.fa p.frs.length p.fc, .slice p.da p.dfs.length p.dc]).alloc (.map #[] 0)
  have hb0 : Below w.heap.size w (w.alloc (.cells #[.slice (p).fa (p).frs.length (p).fc, .slice (p).da (p).dfs.length (p).dc] 25)) := by (repeat' (first | exact Below.refl _ _ | assumption | refine Below.setCell ?_ (by first | omega | exact Below.size (by assumption) | (simp; done) | (simp; omega)) _ | refine Below.alloc ?_ (by first | omega | exact Below.size (by assumption) | (simp; done) | (simp; omega)) _ | refine Below.drew ?_ | refine below_drewN ?_ _))
  have hS0 := SetT.new (w.alloc (.cells #[.slice (p).fa (p).frs.length (p).fc, .slice (p).da (p).dfs.length (p).dc] 25))
  have hsm := small_of hc
  have hn60 := hsm.fr
  have HS8 : Hid (∀ x ∈ p.frs, x.f.rs.length ≤ 8) := hsm.re
  have HWN : Hid (∀ x ∈ p.frs, ∀ s ∈ wantedF x.f, s.size ≤ 8) := fun x hx s hs => wanted_short hc (by
    unfold wantedP PtM.er
    rw [setS_mem, List.flatMap_map]
    exact List.mem_flatMap.2 ⟨x, hx, hs⟩)
  have h1 := h.all hb0
  go_enter Tryd.func54, Tryd.ntmps54
  go_upto_region 2 with (fail)
  have hb1 := hb0.alloc hb0.size (.map #[] 0)
  obtain ⟨g, hg⟩ : ∃ g, g = (w.alloc (.cells #[.slice (p).fa (p).frs.length (p).fc, .slice (p).da (p).dfs.length (p).dc] 25)).heap.size := ⟨_, rfl⟩
  have hgw : w.heap.size ≤ g := by rw [hg]; exact hb0.size
  have hg1 : g = w.heap.size + 1 := by rw [hg]; simp
  obtain ⟨W, hW⟩ : ∃ y, y = (w.alloc (.cells #[.slice (p).fa (p).frs.length (p).fc, .slice (p).da (p).dfs.length (p).dc] 25)).alloc (.map #[] 0) := ⟨_, rfl⟩
  rw [← hg, ← hW] at hS0
  try rw [show w.heap.size + 1 = g from hg1.symm]
  rw [← hW] at kP hb1 ⊢
  clear hW hg hg1 h1 hb0 hmm hc hsm
  have p0 := kP.cell 0
  go_wp2_with fail
  clear p0 kP
  go_loopw [12] (fun i wr => ∃ (k n : Nat) (S : List ByteArray), k ≤ p.frs.length ∧ i = .int .i64 k ∧ n ≤ k * 8 ∧ SetT wr g n S ∧ Hid (∀ x, x ∈ S ↔ x ∈ (p.frs.take k).flatMap fun x => wantedF x.f) ∧ Below w.heap.size w wr) (fun i _ => p.frs.length - (intOf i).toNat)
  case atStart => exact ⟨0, 0, [], Nat.zero_le _, rfl, Nat.zero_le _, hS0, Lib.hid (by simp), hb1⟩
  case round =>
    clear hS0 hb1
    obtain ⟨k, n, S, hk, rfl, hn, hset, hS, hb⟩ := hrel
    by_cases hlt : k < p.frs.length
    · obtain ⟨x, hx⟩ : ∃ x, p.frs[k]? = some x := ⟨_, List.getElem?_eq_getElem hlt⟩
      have hx8 := HS8.out x (List.mem_of_getElem? hx)
      have HWX := Lib.hid (HWN.out x (List.mem_of_getElem? hx))
      have hgx := h.each x (List.mem_of_getElem? hx)
      obtain ⟨b, off, hfa, bl, c0, c1, c2, c3, c4, c5⟩ := fg_get ((h.keep hb hb.size).fr) hx
      have HN : Hid (∀ y, y ∈ (p.frs.take (k + 1)).flatMap (fun x => wantedF x.f) ↔ y ∈ S ∨ y ∈ wantedF x.f) := fun y => by
        rw [List.take_add_one, hx, List.flatMap_append, List.mem_append, hS.out y]; simp
      rw [hfa]
      clear hx
      go_upto_region 5 with (fail)
      have kX := Blk.new wr 63 #[.int .i64 x.f.sect, .int .i64 x.f.align, .string x.f.group, .slice x.ba x.f.bs.length x.bc, .int .i64 x.f.size, .slice x.ra x.f.rs.length x.rc]
      have hset2 := hset.alloc (.cells #[.int .i64 x.f.sect, .int .i64 x.f.align, .string x.f.group, .slice x.ba x.f.bs.length x.bc, .int .i64 x.f.size, .slice x.ra x.f.rs.length x.rc] 63)
      have hb2 := hb.alloc hb.size (.cells #[.int .i64 x.f.sect, .int .i64 x.f.align, .string x.f.group, .slice x.ba x.f.bs.length x.bc, .int .i64 x.f.size, .slice x.ra x.f.rs.length x.rc] 63)
      obtain ⟨gx, hgx'⟩ : ∃ y, y = wr.heap.size := ⟨_, rfl⟩
      obtain ⟨w2, hw2⟩ : ∃ y, y = wr.alloc (.cells #[.int .i64 x.f.sect, .int .i64 x.f.align, .string x.f.group, .slice x.ba x.f.bs.length x.bc, .int .i64 x.f.size, .slice x.ra x.f.rs.length x.rc] 63) := ⟨_, rfl⟩
      rw [← hgx'] at kX ⊢
      rw [← hw2] at kX hset2 hb2 ⊢
      clear hw2 hgx' hset hb c0 c1 c2 c3 c4 c5 bl
      have d5 := kX.cell 5
      go_wp2_with fail
      clear d5 kX
      go_loopw [19] (fun i wr => ∃ (j m : Nat) (T : List ByteArray), j ≤ x.f.rs.length ∧ i = .int .i64 j ∧ m ≤ k * 8 + j ∧ SetT wr g m T ∧ Hid (∀ y, y ∈ T ↔ y ∈ S ∨ y ∈ wantedF { x.f with rs := x.f.rs.take j }) ∧ Below w.heap.size w wr) (fun i _ => x.f.rs.length - (intOf i).toNat)
      case atStart => exact ⟨0, n, S, Nat.zero_le _, rfl, by omega, hset2, Lib.hid (by simp [wantedF]), hb2⟩
      case round =>
        clear hset2 hb2
        obtain ⟨j, m, T, hj, rfl, hm, hset, hT, hb⟩ := hrel
        by_cases hjl : j < x.f.rs.length
        · obtain ⟨r, hr⟩ : ∃ r, x.f.rs[j]? = some r := ⟨_, List.getElem?_eq_getElem hjl⟩
          obtain ⟨g', o', hra, bl', c0, c1, c2, c3, c4⟩ := rel_get (((hgx.keep hb hb.size)).re) hr
          have hm2 := List.mem_of_getElem? hr
          have HT : Hid (∀ y, y ∈ wantedF { x.f with rs := x.f.rs.take (j + 1) } ↔ y ∈ wantedF { x.f with rs := x.f.rs.take j } ∨ (r.name.size ≠ 0 ∧ y = r.name)) := fun y => by
            unfold wantedF
            simp only [List.take_add_one, hr, List.filter_append, List.map_append, List.mem_append]
            refine or_congr Iff.rfl ?_
            by_cases h0 : r.name.size = 0
            · rw [Option.toList_some, wanted_no h0]
              exact ⟨fun h => (by cases h), fun h => absurd h0 h.1⟩
            · rw [Option.toList_some, wanted_one (show 0 < r.name.size by omega)]
              exact ⟨fun h => ⟨h0, List.mem_singleton.1 h⟩, fun h => List.mem_singleton.2 h.2⟩
          rw [hra]
          clear hr
          rcases Nat.eq_zero_or_pos r.name.size with hn0 | hn0
          · have tn := toList_nil hn0
            have HM : Hid (∀ y, y ∈ T ↔ y ∈ S ∨ y ∈ wantedF { x.f with rs := x.f.rs.take (j + 1) }) := fun y => by
              rw [hT.out y, HT.out y]
              refine or_congr Iff.rfl ⟨.inl, fun h => ?_⟩
              rcases h with h | h
              · exact h
              · exact absurd hn0 h.1
            clear hn0 hm2
            go_wp2
            go_roundw
            case rel => exact ⟨j + 1, m, T, by omega, by go_num, by omega, hset.alloc _, HM, by (repeat' (first | exact Below.refl _ _ | assumption | refine Below.setCell ?_ (by first | omega | exact Below.size (by assumption) | (simp; done) | (simp; omega)) _ | refine Below.alloc ?_ (by first | omega | exact Below.size (by assumption) | (simp; done) | (simp; omega)) _ | refine Below.drew ?_ | refine below_drewN ?_ _))⟩
            case measure => simp [intOf]; omega
          · have tn := toList_one hn0
            have tn' := toList_some hn0
            have hrs : r.name.size ≤ 8 := HWX.out r.name (by
              unfold wantedF
              exact List.mem_map.2 ⟨r, List.mem_filter.2 ⟨hm2, decide_eq_true (show r.name.size ≠ 0 by omega)⟩, rfl⟩)
            have HM : Hid (∀ y, y ∈ r.name :: T ↔ y ∈ S ∨ y ∈ wantedF { x.f with rs := x.f.rs.take (j + 1) }) := fun y => by
              rw [List.mem_cons, hT.out y, HT.out y]
              have : r.name.size ≠ 0 := by omega
              simp only [this, ne_eq, not_false_eq_true, true_and]
              constructor
              · rintro (h | h | h)
                · exact .inr (.inr h)
                · exact .inl h
                · exact .inr (.inl h)
              · rintro (h | h | h)
                · exact .inr (.inl h)
                · exact .inr (.inr h)
                · exact .inl h
            clear hn0 hm2
            go_upto_region 9 with (fail)
            have kR := Blk.new wr 93 #[.int .i64 r.at_, .int .i64 r.kind, .string r.name, .int .i64 r.frag, .int .i64 r.add]
            have hset2 := hset.alloc (.cells #[.int .i64 r.at_, .int .i64 r.kind, .string r.name, .int .i64 r.frag, .int .i64 r.add] 93)
            have hb2 := hb.alloc hb.size (.cells #[.int .i64 r.at_, .int .i64 r.kind, .string r.name, .int .i64 r.frag, .int .i64 r.add] 93)
            obtain ⟨gr, hgr⟩ : ∃ y, y = wr.heap.size := ⟨_, rfl⟩
            obtain ⟨w3, hw3⟩ : ∃ y, y = wr.alloc (.cells #[.int .i64 r.at_, .int .i64 r.kind, .string r.name, .int .i64 r.frag, .int .i64 r.add] 93) := ⟨_, rfl⟩
            rw [← hgr] at kR ⊢
            rw [← hw3] at kR hset2 hb2 ⊢
            clear hw3 hgr hset hb c0 c1 c2 c3 c4
            have d2 := kR.cell 2
            go_wp2_with (at_mapUpdate; refine wpList_setPutT _ rfl _ _ _ rfl g m _ hset2 rfl (by omega) r.name rfl rfl (by omega) ?_; intro w4 hs4 hg4)
            have hb4 := hb2.grown hg4 hb2.size (fun j hj => by cases hj; exact hgw)
            go_roundw
            case rel => exact ⟨j + 1, m + 1, r.name :: T, by omega, by go_num, by omega, hs4, HM, hb4⟩
            case measure => simp [intOf]; omega
        · obtain rfl : j = x.f.rs.length := by omega
          have HM : Hid (∀ y, y ∈ T ↔ y ∈ (p.frs.take (k + 1)).flatMap fun x => wantedF x.f) := fun y => by
            rw [hT.out y, HN.out y, List.take_length]
          go_wp2
          go_roundw
          case rel => exact ⟨k + 1, m, T, by omega, by go_num, by omega, hset, HM, hb⟩
          case measure => simp [intOf]; omega
    · obtain rfl : k = p.frs.length := by omega
      have HE : Hid (setS S = wantedP p.er) := setS_congr fun x => by
        rw [hS.out x, List.take_length]
        unfold PtM.er
        rw [List.flatMap_map]
      go_wp2_with fail
      refine (refSet_any wr hset (by omega)).mono ?_
      rintro e w2 ⟨v, rfl, hown, hb2⟩
      rw [HE.out] at hown
      have hown2 := hown.mono hb.size
      have hb3 := hb.trans (hb2.mono hb.size)
      go_wp2
      go_ret
      exact ⟨_, rfl, hown2, hb3⟩
end Go.Proofs.YtmlomnhjbmocfaaDoor
