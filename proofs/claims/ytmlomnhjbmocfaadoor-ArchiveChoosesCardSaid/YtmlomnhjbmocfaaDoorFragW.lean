/- obj.frag: what it computes. -/
import Derived.Test.YtmlomnhjbmocfaaDoorPartW
import Derived.Deep.DeepCutAuto
set_option linter.all false
namespace Go.Proofs.YtmlomnhjbmocfaaDoor
open Go.RowKit

theorem ckFrag_1 {many : Int} {f : Frg} (h : f.sect < 1 ∨ 5 < f.sect ∨ alignB f.align = false) : ckFrag many f = 3 := by unfold ckFrag; rw [if_pos h]
theorem ckFrag_2 {many : Int} {f : Frg} (h : ¬ (f.sect < 1 ∨ 5 < f.sect ∨ alignB f.align = false)) (h1 : f.group.size ≠ 0 ∧ nameB f.group = false) : ckFrag many f = 1 := by unfold ckFrag; rw [if_neg h, if_pos h1]
theorem ckFrag_3 {many : Int} {f : Frg} (h : ¬ (f.sect < 1 ∨ 5 < f.sect ∨ alignB f.align = false)) (h1 : ¬ (f.group.size ≠ 0 ∧ nameB f.group = false)) (h2 : 64 < f.bs.length ∨ 8 < f.rs.length) : ckFrag many f = 2 := by
  unfold ckFrag; rw [if_neg h, if_neg h1, if_pos h2]
theorem ckFrag_4 {many : Int} {f : Frg} (h : ¬ (f.sect < 1 ∨ 5 < f.sect ∨ alignB f.align = false)) (h1 : ¬ (f.group.size ≠ 0 ∧ nameB f.group = false)) (h2 : ¬ (64 < f.bs.length ∨ 8 < f.rs.length)) (h3 : ¬ f.formed) : ckFrag many f = 4 := by
  unfold ckFrag; rw [if_neg h, if_neg h1, if_neg h2, if_pos h3]
theorem ckFrag_5 {many : Int} {f : Frg} (h : ¬ (f.sect < 1 ∨ 5 < f.sect ∨ alignB f.align = false)) (h1 : ¬ (f.group.size ≠ 0 ∧ nameB f.group = false)) (h2 : ¬ (64 < f.bs.length ∨ 8 < f.rs.length)) (h3 : f.formed) : ckFrag many f = ckRels many f.bs.length 0 f.rs := by
  unfold ckFrag; rw [if_neg h, if_neg h1, if_neg h2, if_neg (fun hn => hn h3)]
theorem ckRel_1 {many nb last : Int} {r : Rel} (h : wideOf r.kind = 0 ∨ r.at_ < last ∨ nb - wideOf r.kind < r.at_ ∨ r.add < -10000 ∨ 10000 < r.add) : ckRel many nb last r = 3 := by unfold ckRel; rw [if_pos h]
theorem ckRel_2 {many nb last : Int} {r : Rel} (h : ¬ (wideOf r.kind = 0 ∨ r.at_ < last ∨ nb - wideOf r.kind < r.at_ ∨ r.add < -10000 ∨ 10000 < r.add)) (h1 : r.name.size = 0 ∧ (r.frag < -1 ∨ many ≤ r.frag)) : ckRel many nb last r = 5 := by
  unfold ckRel; rw [if_neg h, if_pos h1.1, if_pos h1.2]
theorem ckRel_3 {many nb last : Int} {r : Rel} (h : ¬ (wideOf r.kind = 0 ∨ r.at_ < last ∨ nb - wideOf r.kind < r.at_ ∨ r.add < -10000 ∨ 10000 < r.add)) (h1 : r.name.size ≠ 0 ∧ (nameB r.name = false ∨ r.frag ≠ 0)) : ckRel many nb last r = 1 := by
  unfold ckRel; rw [if_neg h, if_neg h1.1, if_pos h1.2]
theorem ckRel_4 {many nb last : Int} {r : Rel} (h : ¬ (wideOf r.kind = 0 ∨ r.at_ < last ∨ nb - wideOf r.kind < r.at_ ∨ r.add < -10000 ∨ 10000 < r.add)) (h1 : ¬ (r.name.size = 0 ∧ (r.frag < -1 ∨ many ≤ r.frag)))
    (h2 : ¬ (r.name.size ≠ 0 ∧ (nameB r.name = false ∨ r.frag ≠ 0))) : ckRel many nb last r = 0 := by
  unfold ckRel; rw [if_neg h]
  by_cases h0 : r.name.size = 0
  · rw [if_pos h0, if_neg (fun hn => h1 ⟨h0, hn⟩)]
  · rw [if_neg h0, if_neg (fun hn => h2 ⟨h0, hn⟩)]
theorem ckRels_bad {many nb last e : Int} {r : Rel} {l : List Rel} (h : ckRel many nb last r = e) (he : e ≠ 0) : ckRels many nb last (r :: l) = e := by rw [ckRels, h, if_pos he]
theorem ckRels_ok {many nb last : Int} {r : Rel} {l : List Rel} (h : ckRel many nb last r = 0) : ckRels many nb last (r :: l) = ckRels many nb (r.at_ + wideOf r.kind) l := by rw [ckRels, h, if_neg (by simp)]
theorem formed_no {f : Frg} (h : (f.sect = 5 ∧ (0 < f.bs.length ∨ 0 < f.rs.length ∨ f.size < 0 ∨ 64 < f.size)) ∨ (f.sect ≠ 5 ∧ f.size ≠ 0) ∨ (f.sect = 3 ∧ 0 < f.rs.length)) : ¬ f.formed := fun hn => hn h
theorem formed_yes {f : Frg} (h : ¬ ((f.sect = 5 ∧ (0 < f.bs.length ∨ 0 < f.rs.length ∨ f.size < 0 ∨ 64 < f.size)) ∨ (f.sect ≠ 5 ∧ f.size ≠ 0) ∨ (f.sect = 3 ∧ 0 < f.rs.length))) : f.formed := h
theorem relsV_at {l : List Rel} {k : Nat} {r : Rel} (h : l[k]? = some r) : l.drop k = r :: l.drop (k + 1) := by
  obtain ⟨hk, hv⟩ := List.getElem?_eq_some_iff.1 h
  rw [List.drop_eq_getElem_cons hk, hv]

set_option maxHeartbeats 2000000 in
set_option maxRecDepth 100000 in
theorem frag_any (x : FgM) (many : Int) (w : World) (h : x.Good w w.heap.size) :
    Calls Tryd.prog 73 #[.agg #[.int .i64 x.f.sect, .int .i64 x.f.align, .string x.f.group, .slice x.ba x.f.bs.length x.bc, .int .i64 x.f.size, .slice x.ra x.f.rs.length x.rc], .int .i64 many] w
      fun e w' => e = .returned (.int .i64 (ckFrag many x.f)) ∧ Below w.heap.size w w' := by
  obtain ⟨hby, hre, hbm, hrm⟩ := h
  obtain ⟨⟨sect, align, group, bs, size, rs⟩, ba, bc, ra, rc⟩ := x
  simp only at hby hre hbm hrm ⊢
  have H1 := Lib.hid (@ckFrag_1 many ⟨sect, align, group, bs, size, rs⟩)
  have H2 := Lib.hid (@ckFrag_2 many ⟨sect, align, group, bs, size, rs⟩)
  have H3 := Lib.hid (@ckFrag_3 many ⟨sect, align, group, bs, size, rs⟩)
  have H4 := Lib.hid (@ckFrag_4 many ⟨sect, align, group, bs, size, rs⟩)
  have H5 := Lib.hid (@ckFrag_5 many ⟨sect, align, group, bs, size, rs⟩)
  obtain ⟨E, hE⟩ : ∃ E, ckFrag many ⟨sect, align, group, bs, size, rs⟩ = E := ⟨_, rfl⟩
  rw [hE] at H1 H2 H3 H4 H5 ⊢
  clear hE
  have hg0 : group.size = 0 → group.toList = [] := toList_nil
  have hg1 : 0 < group.size → (!group.toList.isEmpty) = true := toList_some
  have HG0 := Lib.hid hg0
  have HG1 := Lib.hid hg1
  clear hg0 hg1
  go_enter Tryd.func73, Tryd.ntmps73
  go_upto_region 1 with (fail)
  go_cut [23] (fun s wx => ∃ b, s = .bool b ∧ b = decide (sect < 1 ∨ 5 < sect ∨ alignB align = false) ∧ wx = w.alloc (.cells #[.int .i64 sect, .int .i64 align, .string group, .slice ba bs.length bc, .int .i64 size, .slice ra rs.length rc] 63))
  case first =>
    go_wp2_with (go_at_call 74; refine (align_any _ _).mono ?_; rintro e w' ⟨rfl, rfl⟩)
    all_goals (go_meet; exact ⟨_, rfl, by cases alignB align <;> simp <;> omega, rfl⟩)
  case rest =>
    obtain ⟨b, rfl, hb, rfl⟩ := hcut
    by_cases h1 : sect < 1 ∨ 5 < sect ∨ alignB align = false
    · obtain rfl : b = true := by rw [hb]; exact decide_eq_true h1
      have HE := Lib.hid (H1.out h1)
      clear h1 hb
      go_wp2
      go_ret
      exact ⟨ret_val (by rw [HE.out]; rfl), by (repeat' (first | exact Below.refl _ _ | assumption | refine Below.setCell ?_ (by first | omega | exact Below.size (by assumption) | (simp; done) | (simp; omega)) _ | refine Below.alloc ?_ (by first | omega | exact Below.size (by assumption) | (simp; done) | (simp; omega)) _ | refine Below.drew ?_ | refine below_drewN ?_ _))⟩
    · obtain rfl : b = false := by rw [hb]; exact decide_eq_false h1
      have H2 := Lib.hid (H2.out h1)
      have H3 := Lib.hid (H3.out h1)
      have H4 := Lib.hid (H4.out h1)
      have H5 := Lib.hid (H5.out h1)
      clear h1 hb H1
      go_upto_region 3 with (fail)
      go_cut [32] (fun s wx => ∃ b, s = .bool b ∧ b = decide (group.size ≠ 0 ∧ nameB group = false) ∧ wx = w.alloc (.cells #[.int .i64 sect, .int .i64 align, .string group, .slice ba bs.length bc, .int .i64 size, .slice ra rs.length rc] 63))
      case first =>
        rcases Nat.eq_zero_or_pos group.size with hg | hg
        · have e1 := HG0.out hg
          have HG := Lib.hid hg
          clear hg
          go_wp2
          go_meet
          exact ⟨_, rfl, by simp [HG.out], rfl⟩
        · have e1 := HG1.out hg
          go_wp2_with (go_at_call 45; refine (name_any _ _).mono ?_; rintro e w' ⟨rfl, rfl⟩)
          go_meet
          exact ⟨_, rfl, by rcases nameB group with _ | _; exact (decide_eq_true ⟨by omega, rfl⟩).symm; exact (decide_eq_false (fun h => by cases h.2)).symm, rfl⟩
      case rest =>
        obtain ⟨b, rfl, hb, rfl⟩ := hcut
        by_cases h1 : group.size ≠ 0 ∧ nameB group = false
        · obtain rfl : b = true := by rw [hb]; exact decide_eq_true h1
          have HE := Lib.hid (H2.out h1)
          clear h1 hb
          go_wp2
          go_ret
          exact ⟨ret_val (by rw [HE.out]; rfl), by (repeat' (first | exact Below.refl _ _ | assumption | refine Below.setCell ?_ (by first | omega | exact Below.size (by assumption) | (simp; done) | (simp; omega)) _ | refine Below.alloc ?_ (by first | omega | exact Below.size (by assumption) | (simp; done) | (simp; omega)) _ | refine Below.drew ?_ | refine below_drewN ?_ _))⟩
        · obtain rfl : b = false := by rw [hb]; exact decide_eq_false h1
          have H3 := Lib.hid (H3.out h1)
          have H4 := Lib.hid (H4.out h1)
          have H5 := Lib.hid (H5.out h1)
          clear h1 hb H2
          by_cases h1 : 64 < bs.length ∨ 8 < rs.length
          · have HE := Lib.hid (H3.out h1)
            clear H3 H4 H5
            rcases Nat.lt_or_ge 64 bs.length with h2 | h2
            · have q1 : decide ((64 : Int) < (bs.length : Int)) = true := decide_eq_true (by omega)
              clear h1
              go_wp2
              go_ret
              exact ⟨ret_val (by rw [HE.out]; rfl), by (repeat' (first | exact Below.refl _ _ | assumption | refine Below.setCell ?_ (by first | omega | exact Below.size (by assumption) | (simp; done) | (simp; omega)) _ | refine Below.alloc ?_ (by first | omega | exact Below.size (by assumption) | (simp; done) | (simp; omega)) _ | refine Below.drew ?_ | refine below_drewN ?_ _))⟩
            · have h3 : 8 < rs.length := by omega
              have q1 : decide ((64 : Int) < (bs.length : Int)) = false := decide_eq_false (by omega)
              have q2 : decide ((8 : Int) < (rs.length : Int)) = true := decide_eq_true (by omega)
              clear h1
              go_wp2
              all_goals first
                | (go_ret; exact ⟨ret_val (by rw [HE.out]; rfl), by (repeat' (first | exact Below.refl _ _ | assumption | refine Below.setCell ?_ (by first | omega | exact Below.size (by assumption) | (simp; done) | (simp; omega)) _ | refine Below.alloc ?_ (by first | omega | exact Below.size (by assumption) | (simp; done) | (simp; omega)) _ | refine Below.drew ?_ | refine below_drewN ?_ _))⟩)
                | (exfalso; omega)
          · have H4 := Lib.hid (H4.out h1)
            have H5 := Lib.hid (H5.out h1)
            have h2 : bs.length ≤ 64 := by omega
            have h3 : rs.length ≤ 8 := by omega
            have q1 : decide ((64 : Int) < (bs.length : Int)) = false := decide_eq_false (by omega)
            have q2 : decide ((8 : Int) < (rs.length : Int)) = false := decide_eq_false (by omega)
            clear h1 H3
            obtain ⟨zb, hzb⟩ : ∃ zb, (sect == 5) = zb := ⟨_, rfl⟩
            go_upto_region 8 with (fail)
            have HZB := Lib.hid hzb
            clear hzb
            go_cut [86] (fun s wx => ∃ b, s = .bool b ∧ b = decide (¬ Frg.formed ⟨sect, align, group, bs, size, rs⟩) ∧ wx = w.alloc (.cells #[.int .i64 sect, .int .i64 align, .string group, .slice ba bs.length bc, .int .i64 size, .slice ra rs.length rc] 63))
            case first =>
              rcases zb with _ | _
              · have HS5 := Lib.hid (beq_eq_false_iff_ne.1 HZB.out)
                by_cases hz : size = 0
                · subst hz
                  by_cases hs3 : sect = 3
                  · subst hs3
                    rcases Nat.eq_zero_or_pos rs.length with hr | hr
                    · have e8 : decide (0 < rs.length) = false := by simp [hr]
                      have HR := Lib.hid hr
                      clear hr
                      go_wp2
                      all_goals (go_meet; have HR := HR.out; exact ⟨_, rfl, by symm; first | exact decide_eq_true (formed_no (by (try dsimp only); omega)) | exact decide_eq_false (fun hn => hn (formed_yes (by (try dsimp only); omega))), rfl⟩)
                    · have e8 : decide (0 < rs.length) = true := decide_eq_true hr
                      go_wp2
                      all_goals (go_meet; exact ⟨_, rfl, by symm; first | exact decide_eq_true (formed_no (by (try dsimp only); omega)) | exact decide_eq_false (fun hn => hn (formed_yes (by (try dsimp only); omega))), rfl⟩)
                  · have e3 : (sect == 3) = false := beq_eq_false_iff_ne.2 hs3
                    have HS3 := Lib.hid hs3
                    clear hs3
                    go_wp2
                    all_goals (go_meet; have HS5 := HS5.out; have HS3 := HS3.out; exact ⟨_, rfl, by symm; first | exact decide_eq_true (formed_no (by (try dsimp only); omega)) | exact decide_eq_false (fun hn => hn (formed_yes (by (try dsimp only); omega))), rfl⟩)
                · have e6 : (size != 0) = true := by simpa using hz
                  have HZ := Lib.hid hz
                  clear hz
                  go_wp2
                  all_goals (go_meet; have HS5 := HS5.out; have HZ := HZ.out; exact ⟨_, rfl, by symm; first | exact decide_eq_true (formed_no (by (try dsimp only); omega)) | exact decide_eq_false (fun hn => hn (formed_yes (by (try dsimp only); omega))), rfl⟩)
              · obtain rfl : sect = 5 := by simpa using HZB.out
                go_wp2
                all_goals (go_meet; exact ⟨_, rfl, by symm; first | exact decide_eq_true (formed_no (by (try dsimp only); omega)) | exact decide_eq_false (fun hn => hn (formed_yes (by (try dsimp only); omega))), rfl⟩)
            case rest =>
              obtain ⟨b, rfl, hb, rfl⟩ := hcut
              by_cases h1 : Frg.formed ⟨sect, align, group, bs, size, rs⟩
              · obtain rfl : b = false := by rw [hb]; exact decide_eq_false (fun hn => hn h1)
                have HE := Lib.hid (H5.out h1)
                clear h1 hb H4 H5
                have hBk := Blk.new' w 63 #[.int .i64 sect, .int .i64 align, .string group, .slice ba bs.length bc, .int .i64 size, .slice ra rs.length rc] rfl
                go_upto_region 12 with (fail)
                go_wp2_with fail
                go_loopw [6, 90] (fun la i wr => ∃ (k : Nat) (last : Int), k ≤ rs.length ∧ i = .int .i64 k ∧ la = .int .i64 last ∧ 0 ≤ last ∧ last ≤ 64 ∧ Hid (E = ckRels many bs.length last (rs.drop k)) ∧
                  Blk wr w.heap.size 63 #[.int .i64 sect, .int .i64 align, .string group, .slice ba bs.length bc, .int .i64 size, .slice ra rs.length rc] ∧ Below w.heap.size w wr ∧ w.heap.size < wr.heap.size) (fun _ i _ => rs.length - (intOf i).toNat)
                case atStart => exact ⟨0, 0, Nat.zero_le _, rfl, rfl, by omega, by omega, Lib.hid HE.out, hBk, by (repeat' (first | exact Below.refl _ _ | assumption | refine Below.setCell ?_ (by first | omega | exact Below.size (by assumption) | (simp; done) | (simp; omega)) _ | refine Below.alloc ?_ (by first | omega | exact Below.size (by assumption) | (simp; done) | (simp; omega)) _ | refine Below.drew ?_ | refine below_drewN ?_ _)), by simp⟩
                case round =>
                  clear hBk
                  obtain ⟨k, last, hk, rfl, rfl, hl0, hl1, hck, hBk, hb, hz⟩ := hrel
                  have b3 := hBk.cell 3
                  by_cases hlt : k < rs.length
                  · obtain ⟨r, hr⟩ : ∃ r, rs[k]? = some r := ⟨_, List.getElem?_eq_getElem hlt⟩
                    obtain ⟨br, orr, rfl, hbr, c0, c1, c2, c3, c4⟩ := rel_get (hre.below hb) hr
                    have hck' := hck.out
                    rw [relsV_at hr] at hck'
                    have hck := Lib.hid hck'
                    have HW := wide_any r.kind
                    obtain ⟨wb0, wb1⟩ := wide_bd r.kind
                    obtain ⟨wd, hwd⟩ : ∃ x, wideOf r.kind = x := ⟨_, rfl⟩
                    have R1 := @ckRel_1 many bs.length last r
                    have R2 := @ckRel_2 many bs.length last r
                    have R3 := @ckRel_3 many bs.length last r
                    have R4 := @ckRel_4 many bs.length last r
                    have RN := fun l => @ckRels_ok many bs.length last r l
                    rw [hwd] at HW wb0 wb1 R1 R2 R3 R4
                    simp only [hwd] at RN
                    have R1 := Lib.hid R1
                    have R2 := Lib.hid R2
                    have R3 := Lib.hid R3
                    have R4 := Lib.hid R4
                    have RN := Lib.hid RN
                    have HN := name_any r.name
                    obtain ⟨⟨rat, rkind, rname, rfrag, radd⟩, hrr⟩ : ∃ x, r = x := ⟨_, rfl⟩
                    subst hrr
                    simp only at c0 c1 c2 c3 c4 HW HN R1 R2 R3 R4 RN
                    have hn0 := Lib.hid (@toList_nil rname)
                    have hn1 := Lib.hid (@toList_some rname)
                    clear hck' hr hwd
                    go_upto_region 15 with (go_at_call 106; refine (HW _).mono ?_; rintro e w' ⟨rfl, rfl⟩)
                    clear HW
                    go_cut [124] (fun s wx => ∃ b, s = .bool b ∧ b = decide (wd = 0 ∨ rat < last ∨ (bs.length : Int) - wd < rat ∨ radd < -10000 ∨ 10000 < radd) ∧ wx = wr.alloc (.cells #[.int .i64 rat, .int .i64 rkind, .string rname, .int .i64 rfrag, .int .i64 radd] 93))
                    case first =>
                      by_cases h0 : wd = 0
                      · have e0 : (wd == 0) = true := by simpa using h0
                        have H0 := Lib.hid h0
                        clear h0
                        go_wp2
                        all_goals (go_meet; have H0 := H0.out; exact ⟨_, rfl, by symm; first | exact decide_eq_true (by omega) | exact decide_eq_false (by omega), rfl⟩)
                      · have e0 : (wd == 0) = false := beq_eq_false_iff_ne.2 h0
                        have H0 := Lib.hid h0
                        clear h0
                        by_cases h5 : 10000 < radd
                        · have e5 : decide (10000 < radd) = true := decide_eq_true h5
                          go_wp2
                          all_goals (go_meet; have H0 := H0.out; exact ⟨_, rfl, by symm; first | exact decide_eq_true (by omega) | exact decide_eq_false (by omega), rfl⟩)
                        · have e5 : decide (10000 < radd) = false := decide_eq_false h5
                          go_wp2
                          all_goals (go_meet; have H0 := H0.out; exact ⟨_, rfl, by symm; first | exact decide_eq_true (by omega) | exact decide_eq_false (by omega), rfl⟩)
                    case rest =>
                      obtain ⟨b, rfl, hb', rfl⟩ := hcut
                      by_cases h1 : wd = 0 ∨ rat < last ∨ (bs.length : Int) - wd < rat ∨ radd < -10000 ∨ 10000 < radd
                      · obtain rfl : b = true := by rw [hb']; exact decide_eq_true h1
                        have HE := Lib.hid (hck.out.trans (ckRels_bad (R1.out h1) (by decide)))
                        clear h1 hb'
                        go_wp2
                        go_ret
                        exact ⟨ret_val (by rw [HE.out]; rfl), by (repeat' (first | exact Below.refl _ _ | assumption | refine Below.setCell ?_ (by first | omega | exact Below.size (by assumption) | (simp; done) | (simp; omega)) _ | refine Below.alloc ?_ (by first | omega | exact Below.size (by assumption) | (simp; done) | (simp; omega)) _ | refine Below.drew ?_ | refine below_drewN ?_ _))⟩
                      · obtain rfl : b = false := by rw [hb']; exact decide_eq_false h1
                        have R2 := Lib.hid (R2.out h1)
                        have R3 := Lib.hid (R3.out h1)
                        have R4 := Lib.hid (R4.out h1)
                        have g0 : last ≤ rat := by omega
                        have g1 : rat + wd ≤ bs.length := by omega
                        clear h1 hb' R1
                        go_upto_region 18 with (fail)
                        go_cut [129] (fun s wx => ∃ b, s = .bool b ∧ b = decide (rname.size = 0 ∧ (rfrag < -1 ∨ many ≤ rfrag)) ∧ wx = wr.alloc (.cells #[.int .i64 rat, .int .i64 rkind, .string rname, .int .i64 rfrag, .int .i64 radd] 93))
                        case first =>
                          rcases Nat.eq_zero_or_pos rname.size with hg | hg
                          · have e1 := hn0.out hg
                            have HG := Lib.hid hg
                            clear hg
                            go_wp2
                            all_goals (go_meet; have HG := HG.out; exact ⟨_, rfl, by first | rfl | (symm; first | exact decide_eq_true (by omega) | exact decide_eq_false (by omega)) | (apply Bool.eq_iff_iff.2; simp only [decide_eq_true_eq]; omega), rfl⟩)
                          · have e1 := hn1.out hg
                            have e2 := toList_one hg
                            go_wp2
                            all_goals (go_meet; exact ⟨_, rfl, by symm; exact decide_eq_false (by omega), rfl⟩)
                        case rest =>
                          obtain ⟨b, rfl, hb', rfl⟩ := hcut
                          by_cases h1 : rname.size = 0 ∧ (rfrag < -1 ∨ many ≤ rfrag)
                          · obtain rfl : b = true := by rw [hb']; exact decide_eq_true h1
                            have HE := Lib.hid (hck.out.trans (ckRels_bad (R2.out h1) (by decide)))
                            clear h1 hb'
                            go_wp2
                            go_ret
                            exact ⟨ret_val (by rw [HE.out]; rfl), by (repeat' (first | exact Below.refl _ _ | assumption | refine Below.setCell ?_ (by first | omega | exact Below.size (by assumption) | (simp; done) | (simp; omega)) _ | refine Below.alloc ?_ (by first | omega | exact Below.size (by assumption) | (simp; done) | (simp; omega)) _ | refine Below.drew ?_ | refine below_drewN ?_ _))⟩
                          · obtain rfl : b = false := by rw [hb']; exact decide_eq_false h1
                            have R4 := Lib.hid (R4.out h1)
                            clear h1 hb' R2
                            go_upto_region 20 with (fail)
                            go_cut [144] (fun s wx => ∃ b, s = .bool b ∧ b = decide (rname.size ≠ 0 ∧ (nameB rname = false ∨ rfrag ≠ 0)) ∧ wx = wr.alloc (.cells #[.int .i64 rat, .int .i64 rkind, .string rname, .int .i64 rfrag, .int .i64 radd] 93))
                            case first =>
                              rcases Nat.eq_zero_or_pos rname.size with hg | hg
                              · have e1 := hn0.out hg
                                have HG := Lib.hid hg
                                clear hg
                                go_wp2
                                all_goals (go_meet; have HG := HG.out; exact ⟨_, rfl, by symm; exact decide_eq_false (by omega), rfl⟩)
                              · have e1 := hn1.out hg
                                have e2 := toList_one hg
                                obtain ⟨nb, hnb⟩ : ∃ nb, nameB rname = nb := ⟨_, rfl⟩
                                rw [hnb] at HN
                                have HNB := Lib.hid hnb
                                clear hnb
                                by_cases hf0 : rfrag = 0
                                · have q0 : (rfrag != 0) = false := by rw [hf0]; rfl
                                  have HF0 := Lib.hid hf0
                                  clear hf0
                                  rcases nb with _ | _
                                  · go_wp2_with (go_at_call 45; refine (HN _).mono ?_; rintro e w' ⟨rfl, rfl⟩)
                                    go_meet
                                    exact ⟨_, rfl, by symm; exact decide_eq_true ⟨by omega, .inl HNB.out⟩, rfl⟩
                                  · go_wp2_with (go_at_call 45; refine (HN _).mono ?_; rintro e w' ⟨rfl, rfl⟩)
                                    go_meet
                                    exact ⟨_, rfl, by symm; exact decide_eq_false (fun hn => by rw [HNB.out, HF0.out] at hn; simp at hn), rfl⟩
                                · have q0 : (rfrag != 0) = true := bne_iff_ne.2 hf0
                                  have HF0 := Lib.hid hf0
                                  clear hf0
                                  rcases nb with _ | _
                                  · go_wp2_with (go_at_call 45; refine (HN _).mono ?_; rintro e w' ⟨rfl, rfl⟩)
                                    go_meet
                                    exact ⟨_, rfl, by symm; exact decide_eq_true ⟨by omega, .inl HNB.out⟩, rfl⟩
                                  · go_wp2_with (go_at_call 45; refine (HN _).mono ?_; rintro e w' ⟨rfl, rfl⟩)
                                    go_meet
                                    exact ⟨_, rfl, by symm; exact decide_eq_true ⟨by omega, .inr HF0.out⟩, rfl⟩
                            case rest =>
                              obtain ⟨b, rfl, hb', rfl⟩ := hcut
                              by_cases h1 : rname.size ≠ 0 ∧ (nameB rname = false ∨ rfrag ≠ 0)
                              · obtain rfl : b = true := by rw [hb']; exact decide_eq_true h1
                                have HE := Lib.hid (hck.out.trans (ckRels_bad (R3.out h1) (by decide)))
                                clear h1 hb'
                                go_wp2
                                go_ret
                                exact ⟨ret_val (by rw [HE.out]; rfl), by (repeat' (first | exact Below.refl _ _ | assumption | refine Below.setCell ?_ (by first | omega | exact Below.size (by assumption) | (simp; done) | (simp; omega)) _ | refine Below.alloc ?_ (by first | omega | exact Below.size (by assumption) | (simp; done) | (simp; omega)) _ | refine Below.drew ?_ | refine below_drewN ?_ _))⟩
                              · obtain rfl : b = false := by rw [hb']; exact decide_eq_false h1
                                have HE := Lib.hid (hck.out.trans (RN.out _ (R4.out h1)))
                                clear h1 hb' R3 R4 RN
                                go_wp2
                                go_roundw
                                case rel => exact ⟨k + 1, rat + wd, by omega, by go_num, rfl, by omega, by omega, HE, hBk.alloc _, by (repeat' (first | exact Below.refl _ _ | assumption | refine Below.setCell ?_ (by first | omega | exact Below.size (by assumption) | (simp; done) | (simp; omega)) _ | refine Below.alloc ?_ (by first | omega | exact Below.size (by assumption) | (simp; done) | (simp; omega)) _ | refine Below.drew ?_ | refine below_drewN ?_ _)), by simp; omega⟩
                                case measure => simp [intOf]; omega
                  · obtain rfl : k = rs.length := by omega
                    have HE := Lib.hid (hck.out.trans (show ckRels many bs.length last (rs.drop rs.length) = 0 by rw [List.drop_length, ckRels]))
                    go_wp2
                    go_ret
                    exact ⟨ret_val (by rw [HE.out]; rfl), by (repeat' (first | exact Below.refl _ _ | assumption | refine Below.setCell ?_ (by first | omega | exact Below.size (by assumption) | (simp; done) | (simp; omega)) _ | refine Below.alloc ?_ (by first | omega | exact Below.size (by assumption) | (simp; done) | (simp; omega)) _ | refine Below.drew ?_ | refine below_drewN ?_ _))⟩
              · obtain rfl : b = true := by rw [hb]; exact decide_eq_true h1
                have HE := Lib.hid (H4.out h1)
                clear h1 hb H4 H5
                go_wp2
                go_ret
                exact ⟨ret_val (by rw [HE.out]; rfl), by (repeat' (first | exact Below.refl _ _ | assumption | refine Below.setCell ?_ (by first | omega | exact Below.size (by assumption) | (simp; done) | (simp; omega)) _ | refine Below.alloc ?_ (by first | omega | exact Below.size (by assumption) | (simp; done) | (simp; omega)) _ | refine Below.drew ?_ | refine below_drewN ?_ _))⟩
end Go.Proofs.YtmlomnhjbmocfaaDoor
