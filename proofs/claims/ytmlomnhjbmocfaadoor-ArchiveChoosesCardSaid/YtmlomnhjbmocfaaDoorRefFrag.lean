/- ropewalkref.checkFrag: what it computes. -/
import Derived.Test.YtmlomnhjbmocfaaDoorFragW
import Derived.Test.YtmlomnhjbmocfaaDoorRefA
import Derived.Test.YtmlomnhjbmocfaaDoorB1
set_option linter.all false
namespace Go.Proofs.YtmlomnhjbmocfaaDoor
open Go.RowKit

set_option maxHeartbeats 8000000 in
set_option maxRecDepth 100000 in
theorem checkFrag_any (x : FgM) (many : Int) (w : World) (h : x.Good w w.heap.size) :
    Calls Tryd.prog 32 #[.agg #[.int .i64 x.f.sect, .int .i64 x.f.align, .string x.f.group, .slice x.ba x.f.bs.length x.bc, .int .i64 x.f.size, .slice x.ra x.f.rs.length x.rc], .int .i64 many] w
      fun e w' => e = .returned (.int .i64 (ckFrag many x.f)) ∧ Below w.heap.size w w' := by
  obtain ⟨hby, hre, hbm, hrm⟩ := h
  obtain ⟨⟨sect, align, group, bs, size, rs⟩, ba, bc, ra, rc⟩ := x
  simp only at hby hre hbm hrm ⊢
  have H1 := Lib.hid (@ckFrag_1 many ⟨sect, align, group, bs, size, rs⟩)
  have H2 := Lib.hid (@ckFrag_2 many ⟨sect, align, group, bs, size, rs⟩)
  have H3 := Lib.hid (@ckFrag_3 many ⟨sect, align, group, bs, size, rs⟩)
  have H4 := Lib.hid (@ckFrag_4 many ⟨sect, align, group, bs, size, rs⟩)
  have H5 := Lib.hid (@ckFrag_5 many ⟨sect, align, group, bs, size, rs⟩)
  obtain ⟨E, hE⟩ : ∃ E, ckFrag many ⟨sect, align, group, bs, size, rs⟩ = E := ⟨_, rfl⟩
  rw [hE] at H1 H2 H3 H4 H5 ⊢
  clear hE
  have hg0 : group.size = 0 → group.toList = [] := toList_nil
  have hg1 : 0 < group.size → (!group.toList.isEmpty) = true := toList_some
  have HG0 := Lib.hid hg0
  have HG1 := Lib.hid hg1
  clear hg0 hg1
  have kx := Blk.new w 63 #[.int .i64 sect, .int .i64 align, .string group, .slice ba bs.length bc, .int .i64 size, .slice ra rs.length rc]
  have hB : Below w.heap.size w (w.alloc (.cells #[.int .i64 sect, .int .i64 align, .string group, .slice ba bs.length bc, .int .i64 size, .slice ra rs.length rc] 63)) := by (repeat' (first | exact Below.refl _ _ | assumption | refine Below.setCell ?_ (by first | omega | exact Below.size (by assumption) | (simp; done) | (simp; omega)) _ | refine Below.alloc ?_ (by first | omega | exact Below.size (by assumption) | (simp; done) | (simp; omega)) _ | refine Below.drew ?_ | refine below_drewN ?_ _))
  go_enter Tryd.func32, Tryd.ntmps32
  go_upto_region 1 with (fail)
  obtain ⟨W, hW⟩ : ∃ W', W' = w.alloc (.cells #[.int .i64 sect, .int .i64 align, .string group, .slice ba bs.length bc, .int .i64 size, .slice ra rs.length rc] 63) := ⟨_, rfl⟩
  rw [← hW] at kx hB ⊢
  clear hW
  (have c0 := kx.cell 0; have c1 := kx.cell 1; have c2 := kx.cell 2; have c3 := kx.cell 3; have c4 := kx.cell 4; have c5 := kx.cell 5)
  by_cases p1 : sect < 1
  · have t1 : decide (sect < 1) = true := decide_eq_true p1
    have HE := Lib.hid (H1.out (.inl p1))
    clear p1
    go_wp2
    go_ret
    exact ⟨ret_val (by rw [HE.out]; rfl), hB⟩
  · have t1 : decide (sect < 1) = false := decide_eq_false p1
    by_cases p2 : 5 < sect
    · have t2 : decide (5 < sect) = true := decide_eq_true p2
      have HE := Lib.hid (H1.out (.inr (.inl p2)))
      clear p1 p2
      go_wp2
      go_ret
      exact ⟨ret_val (by rw [HE.out]; rfl), hB⟩
    · have t2 : decide (5 < sect) = false := decide_eq_false p2
      obtain ⟨al, hal⟩ : ∃ al, alignB align = al := ⟨_, rfl⟩
      go_wp2_with fail
      refine (isAlign_any align W).mono ?_
      rintro e w1 ⟨rfl, hs⟩
      rw [hal]
      replace kx := kx.all hs
      replace hB := hB.trans (hs.mono hB.size)
      (clear c0 c1 c2 c3 c4 c5)
      clear hs
      obtain ⟨W, hW⟩ : ∃ W', W' = w1 := ⟨_, rfl⟩
      rw [← hW] at kx hB ⊢
      clear hW
      rcases al with _ | _
      · have HE := Lib.hid (H1.out (.inr (.inr hal)))
        clear hal p1 p2
        go_wp2
        go_ret
        exact ⟨ret_val (by rw [HE.out]; rfl), hB⟩
      · have hn1 : ¬ (sect < 1 ∨ 5 < sect ∨ alignB align = false) := by rw [hal]; simp; omega
        have H2 := Lib.hid (H2.out hn1)
        have H3 := Lib.hid (H3.out hn1)
        have H4 := Lib.hid (H4.out hn1)
        have H5 := Lib.hid (H5.out hn1)
        clear hn1 hal H1 p1 p2 t1 t2
        go_upto_region 3 with (fail)
        (have c0 := kx.cell 0; have c1 := kx.cell 1; have c2 := kx.cell 2; have c3 := kx.cell 3; have c4 := kx.cell 4; have c5 := kx.cell 5)
        go_cut [24] (fun s wx => ∃ b, s = .bool b ∧ b = decide (group.size ≠ 0 ∧ nameB group = false) ∧ Blk wx w.heap.size 63 #[.int .i64 sect, .int .i64 align, .string group, .slice ba bs.length bc, .int .i64 size, .slice ra rs.length rc] ∧ Below w.heap.size w wx)
        case first =>
          rcases Nat.eq_zero_or_pos group.size with hg | hg
          · have e1 := HG0.out hg
            have HG := Lib.hid hg
            clear hg
            go_wp2
            go_meet
            exact ⟨_, rfl, by simp [HG.out], kx, hB⟩
          · have e1 := HG1.out hg
            go_wp2_with (go_at_call 20; refine (isName_any _ _).mono ?_; rintro e w1 ⟨rfl, hs⟩)
            go_meet
            exact ⟨_, rfl, by rcases nameB group with _ | _; exact (decide_eq_true ⟨by omega, rfl⟩).symm; exact (decide_eq_false (fun h => by cases h.2)).symm, kx.all hs, hB.trans (hs.mono hB.size)⟩
        case rest =>
          clear kx hB c0 c1 c2 c3 c4 c5
          obtain ⟨b, rfl, hb, kx, hB⟩ := hcut
          by_cases h1 : group.size ≠ 0 ∧ nameB group = false
          · obtain rfl : b = true := by rw [hb]; exact decide_eq_true h1
            have HE := Lib.hid (H2.out h1)
            clear h1 hb
            go_wp2
            go_ret
            exact ⟨ret_val (by rw [HE.out]; rfl), hB⟩
          · obtain rfl : b = false := by rw [hb]; exact decide_eq_false h1
            have H3 := Lib.hid (H3.out h1)
            have H4 := Lib.hid (H4.out h1)
            have H5 := Lib.hid (H5.out h1)
            clear h1 hb H2
            obtain ⟨W, hW⟩ : ∃ W', W' = wc := ⟨_, rfl⟩
            rw [← hW] at kx hB ⊢
            clear hW
            (have c0 := kx.cell 0; have c1 := kx.cell 1; have c2 := kx.cell 2; have c3 := kx.cell 3; have c4 := kx.cell 4; have c5 := kx.cell 5)
            by_cases h1 : 64 < bs.length ∨ 8 < rs.length
            · have HE := Lib.hid (H3.out h1)
              clear H3 H4 H5
              rcases Nat.lt_or_ge 64 bs.length with h2 | h2
              · have q1 : decide ((64 : Int) < (bs.length : Int)) = true := decide_eq_true (by omega)
                clear h1
                go_wp2
                go_ret
                exact ⟨ret_val (by rw [HE.out]; rfl), hB⟩
              · have h3 : 8 < rs.length := by omega
                have q1 : decide ((64 : Int) < (bs.length : Int)) = false := decide_eq_false (by omega)
                have q2 : decide ((8 : Int) < (rs.length : Int)) = true := decide_eq_true (by omega)
                clear h1
                go_wp2
                go_ret
                exact ⟨ret_val (by rw [HE.out]; rfl), hB⟩
            · have H4 := Lib.hid (H4.out h1)
              have H5 := Lib.hid (H5.out h1)
              have h2 : bs.length ≤ 64 := by omega
              have h3 : rs.length ≤ 8 := by omega
              have q1 : decide ((64 : Int) < (bs.length : Int)) = false := decide_eq_false (by omega)
              have q2 : decide ((8 : Int) < (rs.length : Int)) = false := decide_eq_false (by omega)
              clear h1 H3
              go_upto_region 7 with (fail)
              go_cut [45] (fun s wx => ∃ b, s = .bool b ∧ b = decide (sect = 5 ∧ (0 < bs.length ∨ 0 < rs.length ∨ size < 0 ∨ 64 < size)) ∧ wx = W)
              case first =>
                by_cases hz : sect = 5
                · have e5 : (sect == 5) = true := by simp [hz]
                  have HZ := Lib.hid hz
                  clear hz
                  go_wp2
                  all_goals (go_meet; have HZ := HZ.out; exact ⟨_, rfl, by (symm; first | exact decide_eq_true (by omega) | exact decide_eq_false (by omega) | (apply Bool.eq_iff_iff.2; simp only [decide_eq_true_eq]; omega)), rfl⟩)
                · have e5 : (sect == 5) = false := beq_eq_false_iff_ne.2 hz
                  have HZ := Lib.hid hz
                  clear hz
                  go_wp2
                  go_meet
                  have HZ := HZ.out
                  exact ⟨_, rfl, by (symm; first | exact decide_eq_true (by omega) | exact decide_eq_false (by omega) | (apply Bool.eq_iff_iff.2; simp only [decide_eq_true_eq]; omega)), rfl⟩
              case rest =>
                obtain ⟨b, rfl, hb, rfl⟩ := hcut
                by_cases h1 : sect = 5 ∧ (0 < bs.length ∨ 0 < rs.length ∨ size < 0 ∨ 64 < size)
                · obtain rfl : b = true := by rw [hb]; exact decide_eq_true h1
                  have HE := Lib.hid (H4.out (formed_no (.inl h1)))
                  clear h1 hb
                  go_wp2
                  go_ret
                  exact ⟨ret_val (by rw [HE.out]; rfl), hB⟩
                · obtain rfl : b = false := by rw [hb]; exact decide_eq_false h1
                  have F1 := Lib.hid h1
                  clear h1 hb
                  go_upto_region 8 with (fail)
                  go_cut [45] (fun s wx => ∃ b, s = .bool b ∧ b = decide (sect ≠ 5 ∧ size ≠ 0) ∧ wx = wc)
                  case first =>
                    by_cases hz : sect = 5
                    · have e5 : (sect != 5) = false := by simp [hz]
                      have HZ := Lib.hid hz
                      clear hz
                      go_wp2
                      go_meet
                      have HZ := HZ.out
                      exact ⟨_, rfl, by (symm; first | exact decide_eq_true (by omega) | exact decide_eq_false (by omega) | (apply Bool.eq_iff_iff.2; simp only [decide_eq_true_eq]; omega)), rfl⟩
                    · have e5 : (sect != 5) = true := by simpa using hz
                      have HZ := Lib.hid hz
                      clear hz
                      by_cases hs0 : size = 0
                      · have e6 : (size != 0) = false := by simp [hs0]
                        have HS := Lib.hid hs0
                        clear hs0
                        go_wp2
                        go_meet
                        have HZ := HZ.out
                        have HS := HS.out
                        exact ⟨_, rfl, by (symm; first | exact decide_eq_true (by omega) | exact decide_eq_false (by omega) | (apply Bool.eq_iff_iff.2; simp only [decide_eq_true_eq]; omega)), rfl⟩
                      · have e6 : (size != 0) = true := by simpa using hs0
                        have HS := Lib.hid hs0
                        clear hs0
                        go_wp2
                        go_meet
                        have HZ := HZ.out
                        have HS := HS.out
                        exact ⟨_, rfl, by (symm; first | exact decide_eq_true (by omega) | exact decide_eq_false (by omega) | (apply Bool.eq_iff_iff.2; simp only [decide_eq_true_eq]; omega)), rfl⟩
                  case rest =>
                    obtain ⟨b, rfl, hb, rfl⟩ := hcut
                    by_cases h1 : sect ≠ 5 ∧ size ≠ 0
                    · obtain rfl : b = true := by rw [hb]; exact decide_eq_true h1
                      have HE := Lib.hid (H4.out (formed_no (.inr (.inl h1))))
                      clear h1 hb
                      go_wp2
                      go_ret
                      exact ⟨ret_val (by rw [HE.out]; rfl), hB⟩
                    · obtain rfl : b = false := by rw [hb]; exact decide_eq_false h1
                      have F2 := Lib.hid h1
                      clear h1 hb
                      go_upto_region 9 with (fail)
                      go_cut [45] (fun s wx => ∃ b, s = .bool b ∧ b = decide (sect = 3 ∧ 0 < rs.length) ∧ wx = wc)
                      case first =>
                        by_cases hz : sect = 3
                        · have e5 : (sect == 3) = true := by simp [hz]
                          have HZ := Lib.hid hz
                          clear hz
                          go_wp2
                          all_goals (go_meet; have HZ := HZ.out; exact ⟨_, rfl, by (symm; first | exact decide_eq_true (by omega) | exact decide_eq_false (by omega) | (apply Bool.eq_iff_iff.2; simp only [decide_eq_true_eq]; omega)), rfl⟩)
                        · have e5 : (sect == 3) = false := beq_eq_false_iff_ne.2 hz
                          have HZ := Lib.hid hz
                          clear hz
                          go_wp2
                          go_meet
                          have HZ := HZ.out
                          exact ⟨_, rfl, by (symm; first | exact decide_eq_true (by omega) | exact decide_eq_false (by omega) | (apply Bool.eq_iff_iff.2; simp only [decide_eq_true_eq]; omega)), rfl⟩
                      case rest =>
                        obtain ⟨b, rfl, hb, rfl⟩ := hcut
                        by_cases h1 : sect = 3 ∧ 0 < rs.length
                        · obtain rfl : b = true := by rw [hb]; exact decide_eq_true h1
                          have HE := Lib.hid (H4.out (formed_no (.inr (.inr h1))))
                          clear h1 hb
                          go_wp2
                          go_ret
                          exact ⟨ret_val (by rw [HE.out]; rfl), hB⟩
                        · obtain rfl : b = false := by rw [hb]; exact decide_eq_false h1
                          have HE := Lib.hid (H5.out (formed_yes (fun hn => hn.elim F1.out (fun hn => hn.elim F2.out h1))))
                          clear h1 hb H4 H5 F1 F2
                          go_upto_region 12 with (fail)
                          go_wp2_with fail
                          (clear c0 c1 c2 c3 c4 c5)
                          go_loopw [5, 91] (fun la i wr => ∃ (k : Nat) (last : Int), k ≤ rs.length ∧ i = .int .i64 k ∧ la = .int .i64 last ∧ 0 ≤ last ∧ last ≤ 64 ∧ Hid (E = ckRels many bs.length last (rs.drop k)) ∧
                            Blk wr w.heap.size 63 #[.int .i64 sect, .int .i64 align, .string group, .slice ba bs.length bc, .int .i64 size, .slice ra rs.length rc] ∧ Below w.heap.size w wr) (fun _ i _ => rs.length - (intOf i).toNat)
                          case atStart => exact ⟨0, 0, Nat.zero_le _, rfl, rfl, by omega, by omega, Lib.hid HE.out, kx, hB⟩
                          case round =>
                            clear kx hB
                            obtain ⟨k, last, hk, rfl, rfl, hl0, hl1, hck, kx, hB⟩ := hrel
                            by_cases hlt : k < rs.length
                            · obtain ⟨r, hr⟩ : ∃ r, rs[k]? = some r := ⟨_, List.getElem?_eq_getElem hlt⟩
                              obtain ⟨br, orr, rfl, hbr, d0, d1, d2, d3, d4⟩ := rel_get (hre.below hB) hr
                              have hck' := hck.out
                              rw [relsV_at hr] at hck'
                              have hck := Lib.hid hck'
                              obtain ⟨wb0, wb1⟩ := wide_bd r.kind
                              obtain ⟨wd, hwd⟩ : ∃ x, wideOf r.kind = x := ⟨_, rfl⟩
                              have R1 := @ckRel_1 many bs.length last r
                              have R2 := @ckRel_2 many bs.length last r
                              have R3 := @ckRel_3 many bs.length last r
                              have R4 := @ckRel_4 many bs.length last r
                              have RN := fun l => @ckRels_ok many bs.length last r l
                              rw [hwd] at wb0 wb1 R1 R2 R3 R4
                              simp only [hwd] at RN
                              have R1 := Lib.hid R1
                              have R2 := Lib.hid R2
                              have R3 := Lib.hid R3
                              have R4 := Lib.hid R4
                              have RN := Lib.hid RN
                              have HWD := Lib.hid hwd
                              obtain ⟨⟨rat, rkind, rname, rfrag, radd⟩, hrr⟩ : ∃ x, r = x := ⟨_, rfl⟩
                              subst hrr
                              simp only at d0 d1 d2 d3 d4 R1 R2 R3 R4 RN HWD
                              have hn0 := Lib.hid (@toList_nil rname)
                              have hn1 := Lib.hid (@toList_some rname)
                              clear hck' hr hwd
                              go_upto_region 15 with (fail)
                              have kr := Blk.new wr 93 #[.int .i64 rat, .int .i64 rkind, .string rname, .int .i64 rfrag, .int .i64 radd]
                              have hs : Below wr.heap.size wr (wr.alloc (.cells #[.int .i64 rat, .int .i64 rkind, .string rname, .int .i64 rfrag, .int .i64 radd] 93)) := by (repeat' (first | exact Below.refl _ _ | assumption | refine Below.setCell ?_ (by first | omega | exact Below.size (by assumption) | (simp; done) | (simp; omega)) _ | refine Below.alloc ?_ (by first | omega | exact Below.size (by assumption) | (simp; done) | (simp; omega)) _ | refine Below.drew ?_ | refine below_drewN ?_ _))
                              replace kx := kx.all hs
                              replace hB := hB.trans (hs.mono hB.size)
                              obtain ⟨gr, hgr⟩ : ∃ g, g = wr.heap.size := ⟨_, rfl⟩
                              obtain ⟨W, hW⟩ : ∃ W', W' = wr.alloc (.cells #[.int .i64 rat, .int .i64 rkind, .string rname, .int .i64 rfrag, .int .i64 radd] 93) := ⟨_, rfl⟩
                              rw [← hgr] at kr ⊢
                              rw [← hW] at kx kr hB ⊢
                              clear hW hgr hs d0 d1 d2 d3 d4
                              have d1 := kr.cell 1
                              go_wp2_with fail
                              refine (wideOf_any rkind W).mono ?_
                              rintro e w1 ⟨rfl, hs⟩
                              rw [HWD.out]
                              replace kx := kx.all hs
                              replace kr := kr.all hs
                              replace hB := hB.trans (hs.mono hB.size)
                              clear d1 hs
                              obtain ⟨W, hW⟩ : ∃ W', W' = w1 := ⟨_, rfl⟩
                              rw [← hW] at kx kr hB ⊢
                              clear hW
                              have d0 := kr.cell 0
                              have d2 := kr.cell 2
                              have d3 := kr.cell 3
                              have d4 := kr.cell 4
                              have c3 := kx.cell 3
                              go_upto_region 16 with (fail)
                              go_cut [130] (fun s wx => ∃ b, s = .bool b ∧ b = decide (wd = 0 ∨ rat < last ∨ (bs.length : Int) - wd < rat ∨ radd < -10000 ∨ 10000 < radd) ∧ wx = W)
                              case first =>
                                by_cases h0 : wd = 0
                                · have e0 : (wd == 0) = true := by simpa using h0
                                  have H0 := Lib.hid h0
                                  clear h0
                                  go_wp2
                                  (all_goals (go_meet; (try have H0 := H0.out); exact ⟨_, rfl, by (symm; first | exact decide_eq_true (by omega) | exact decide_eq_false (by omega) | (apply Bool.eq_iff_iff.2; simp only [decide_eq_true_eq]; omega)), rfl⟩))
                                · have e0 : (wd == 0) = false := beq_eq_false_iff_ne.2 h0
                                  have H0 := Lib.hid h0
                                  clear h0
                                  by_cases hl : rat < last
                                  · have e1 : decide (rat < last) = true := decide_eq_true hl
                                    go_wp2
                                    (all_goals (go_meet; (try have H0 := H0.out); exact ⟨_, rfl, by (symm; first | exact decide_eq_true (by omega) | exact decide_eq_false (by omega) | (apply Bool.eq_iff_iff.2; simp only [decide_eq_true_eq]; omega)), rfl⟩))
                                  · have e1 : decide (rat < last) = false := decide_eq_false hl
                                    have hl' : last ≤ rat := by omega
                                    by_cases h64 : 64 < rat
                                    · have e2 : decide (64 < rat) = true := decide_eq_true h64
                                      go_wp2
                                      (all_goals (go_meet; (try have H0 := H0.out); exact ⟨_, rfl, by (symm; first | exact decide_eq_true (by omega) | exact decide_eq_false (by omega) | (apply Bool.eq_iff_iff.2; simp only [decide_eq_true_eq]; omega)), rfl⟩))
                                    · have e2 : decide (64 < rat) = false := decide_eq_false h64
                                      have h64' : rat ≤ 64 := by omega
                                      go_wp2
                                      (all_goals (go_meet; (try have H0 := H0.out); exact ⟨_, rfl, by (symm; first | exact decide_eq_true (by omega) | exact decide_eq_false (by omega) | (apply Bool.eq_iff_iff.2; simp only [decide_eq_true_eq]; omega)), rfl⟩))
                              case rest =>
                                obtain ⟨b, rfl, hb', rfl⟩ := hcut
                                by_cases h1 : wd = 0 ∨ rat < last ∨ (bs.length : Int) - wd < rat ∨ radd < -10000 ∨ 10000 < radd
                                · obtain rfl : b = true := by rw [hb']; exact decide_eq_true h1
                                  have HE := Lib.hid (hck.out.trans (ckRels_bad (R1.out h1) (by decide)))
                                  clear h1 hb'
                                  go_wp2
                                  go_ret
                                  exact ⟨ret_val (by rw [HE.out]; rfl), hB⟩
                                · obtain rfl : b = false := by rw [hb']; exact decide_eq_false h1
                                  have R2 := Lib.hid (R2.out h1)
                                  have R3 := Lib.hid (R3.out h1)
                                  have R4 := Lib.hid (R4.out h1)
                                  have g0 : last ≤ rat := by omega
                                  have g1 : rat + wd ≤ bs.length := by omega
                                  clear h1 hb' R1
                                  rcases Nat.eq_zero_or_pos rname.size with hg | hg
                                  · have e1 := hn0.out hg
                                    by_cases hb1 : rfrag < -1 ∨ many ≤ rfrag
                                    · have HE := Lib.hid (hck.out.trans (ckRels_bad (R2.out ⟨hg, hb1⟩) (by decide)))
                                      clear hg
                                      by_cases hb2 : rfrag < -1
                                      · have e2 : decide (rfrag < -1) = true := decide_eq_true hb2
                                        clear hb1 hb2
                                        go_wp2
                                        go_ret
                                        exact ⟨ret_val (by rw [HE.out]; rfl), hB⟩
                                      · have e2 : decide (rfrag < -1) = false := decide_eq_false hb2
                                        have e3 : decide (many ≤ rfrag) = true := decide_eq_true (by omega)
                                        clear hb1 hb2
                                        go_wp2
                                        go_ret
                                        exact ⟨ret_val (by rw [HE.out]; rfl), hB⟩
                                    · have HE := Lib.hid (hck.out.trans (RN.out _ (R4.out (fun hn => hb1 hn.2) (fun hn => hn.1 hg))))
                                      have e2 : decide (rfrag < -1) = false := decide_eq_false (by omega)
                                      have e3 : decide (many ≤ rfrag) = false := decide_eq_false (by omega)
                                      clear hb1 hg
                                      go_wp2
                                      go_roundw
                                      case rel => exact ⟨k + 1, rat + wd, by omega, by go_num, rfl, by omega, by omega, HE, kx, hB⟩
                                      case measure => simp [intOf]; omega
                                  · have e1 := hn1.out hg
                                    have e2 := toList_one hg
                                    obtain ⟨nb, hnb⟩ : ∃ nb, nameB rname = nb := ⟨_, rfl⟩
                                    have hg' : rname.size ≠ 0 := by omega
                                    go_wp2_with fail
                                    refine (isName_any rname _).mono ?_
                                    rintro e w3 ⟨rfl, hs⟩
                                    rw [hnb]
                                    have hkx3 := kx.all hs
                                    have hB3 := hB.trans (hs.mono hB.size)
                                    have d3' := (kr.all hs).cell 3
                                    clear hs d0 d2 d3 d4 c3
                                    rcases nb with _ | _
                                    · have HE := Lib.hid (hck.out.trans (ckRels_bad (R3.out ⟨hg', .inl hnb⟩) (by decide)))
                                      clear hnb hg hg'
                                      go_wp2
                                      go_ret
                                      exact ⟨ret_val (by rw [HE.out]; rfl), hB3⟩
                                    · by_cases hf0 : rfrag = 0
                                      · have q0 : (rfrag != 0) = false := by rw [hf0]; rfl
                                        have HE := Lib.hid (hck.out.trans (RN.out _ (R4.out (fun hn => hg' hn.1) (fun hn => hn.2.elim (fun h => by rw [hnb] at h; cases h) (fun h => h hf0)))))
                                        clear hnb hg hg' hf0
                                        go_wp2
                                        go_roundw
                                        case rel => exact ⟨k + 1, rat + wd, by omega, by go_num, rfl, by omega, by omega, HE, hkx3, hB3⟩
                                        case measure => simp [intOf]; omega
                                      · have q0 : (rfrag != 0) = true := bne_iff_ne.2 hf0
                                        have HE := Lib.hid (hck.out.trans (ckRels_bad (R3.out ⟨hg', .inr hf0⟩) (by decide)))
                                        clear hnb hg hg' hf0
                                        go_wp2
                                        go_ret
                                        exact ⟨ret_val (by rw [HE.out]; rfl), hB3⟩
                            · obtain rfl : k = rs.length := by omega
                              have HE := Lib.hid (hck.out.trans (show ckRels many bs.length last (rs.drop rs.length) = 0 by rw [List.drop_length, ckRels]))
                              go_wp2
                              go_ret
                              exact ⟨ret_val (by rw [HE.out]; rfl), hB⟩
end Go.Proofs.YtmlomnhjbmocfaaDoor
