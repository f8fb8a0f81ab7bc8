/- ropewalklaw.LinkFaults: the call returns true. -/
import Derived.Test.YtbhjdinjoonngaaLinkFc
import Derived.Test.YtbhjdinjoonngaaLinkMovedW
set_option linter.all false
namespace Go.Proofs.Ytbhjdinjoonngaa
open Go.RowKit

set_option maxRecDepth 100000 in
set_option maxHeartbeats 4000000 in
theorem linkFaults_any (p : PtM) (base : Int) (entry : ByteArray) (w : World) (h : p.At w w.heap.size) :
    Calls Try.prog 10 #[.agg #[.slice p.fa p.frs.length p.fc, .slice p.da p.dfs.length p.dc], .int .i64 base, .string entry] w fun e w' => e = .returned (.bool true) ∧ Below w.heap.size w w' := by
  have kP := Blk.new w 44 #[.slice p.fa p.frs.length p.fc, .slice p.da p.dfs.length p.dc]
  have hb : Below w.heap.size w (w.alloc (.cells #[.slice (p).fa (p).frs.length (p).fc, .slice (p).da (p).dfs.length (p).dc] 44)) := by (repeat' (first | exact Below.refl _ _ | assumption | refine Below.setCell ?_ (by first | omega | exact Below.size (by assumption) | (simp; done) | (simp; omega)) _ | refine Below.alloc ?_ (by first | omega | exact Below.size (by assumption) | (simp; done) | (simp; omega)) _ | refine Below.drew ?_ | refine below_drewN ?_ _))
  have h1 := h.all hb
  clear h
  go_enter Try.func10, Try.ntmps10
  go_wp2_with fail
  obtain ⟨gP, hgP⟩ : ∃ g, g = w.heap.size := ⟨_, rfl⟩
  obtain ⟨W, hW⟩ : ∃ W, W = w.alloc (.cells #[.slice (p).fa (p).frs.length (p).fc, .slice (p).da (p).dfs.length (p).dc] 44) := ⟨_, rfl⟩
  rw [show Blk (w.alloc (.cells #[.slice (p).fa (p).frs.length (p).fc, .slice (p).da (p).dfs.length (p).dc] 44)) w.heap.size = Blk W gP by rw [hW, hgP]] at kP
  rw [← hgP]
  rw [← hW] at hb h1 ⊢
  clear hW hgP
  refine (link_any p base entry W h1).mono ?_
  rintro e w1 ⟨A, c, segs, Au, cu, rfl, hm, hsa, hfl, hcu, hb1⟩
  have kP := kP.all hb1
  have h1 := h1.all hb1
  have hb := hb.trans (hb1.mono hb.size)
  clear hb1
  have hlen := linkP_len p base entry
  obtain ⟨⟨⟨en, sg⟩, fl, x⟩, hr⟩ : ∃ t, linkP p.er base entry = t := ⟨_, rfl⟩
  rw [hr] at hm hfl hcu hlen ⊢
  dsimp only at hm hfl hcu hlen ⊢
  have HRR := Lib.hid hr
  clear hr
  go_upto_region 2 with (fail)
  have kM := Blk.new w1 87 #[.int .i64 en, .slice A segs.length c]
  have hbx : Below w1.heap.size w1 (w1.alloc (.cells #[.int .i64 en, .slice A segs.length c] 87)) := by (repeat' (first | exact Below.refl _ _ | assumption | refine Below.setCell ?_ (by first | omega | exact Below.size (by assumption) | (simp; done) | (simp; omega)) _ | refine Below.alloc ?_ (by first | omega | exact Below.size (by assumption) | (simp; done) | (simp; omega)) _ | refine Below.drew ?_ | refine below_drewN ?_ _))
  obtain ⟨gM, hgM⟩ : ∃ g, g = w1.heap.size := ⟨_, rfl⟩
  obtain ⟨W2, hW2⟩ : ∃ W, W = w1.alloc (.cells #[.int .i64 en, .slice A segs.length c] 87) := ⟨_, rfl⟩
  replace hfl := (hfl.below hbx).more hbx.size
  replace kP := kP.all hbx
  replace h1 := h1.all hbx
  replace hb := hb.trans (hbx.mono hb.size)
  rw [← hgM] at kM ⊢
  rw [← hW2] at kM hfl kP h1 hb ⊢
  clear hW2 hgM hbx hsa
  go_wp2_with fail
  refine (linked_any W2).mono ?_
  rintro e w3 ⟨rfl, hb3⟩
  replace kM := kM.all hb3
  replace hfl := (hfl.below hb3).more hb3.size
  replace kP := kP.all hb3
  replace h1 := h1.all hb3
  replace hb := hb.trans (hb3.mono hb.size)
  clear hb3
  by_cases hx : x = 0
  · subst hx
    have hE : linkE p.er base entry = 0 := linkP_zero (by rw [HRR.out])
    obtain ⟨hc, hnb, hl0⟩ := linkE_zero hE
    obtain ⟨_, hn0, hn1, _⟩ := layE_zero hl0
    obtain ⟨n, rfl⟩ : ∃ n : Nat, base = n := ⟨base.toNat, by omega⟩
    have hflx : fl = linkFl p.er n entry := by rw [← linkP_fl hE, HRR.out]
    obtain ⟨r, hrest, hok⟩ := told_rest (entry := entry) hl0
    have HSG : Hid (((segs.length : Int) == 0) = decide ((0 : Int) < (fl.length : Int)) ∧ decide ((0 : Int) < (fl.length : Int)) = decide (0 < fl.length)) := by
      refine ⟨?_, by rw [Bool.eq_iff_iff]; simp⟩
      by_cases hf : linkFl p.er n entry = []
      · have hk := linkP_ok hE hf
        rw [HRR.out] at hk
        injection hk with hk1 hk2
        injection hk1 with _ hk1
        injection hk2 with hk2 _
        rw [hk1] at hm
        obtain ⟨s1, s2, s3, rfl, _⟩ := segs3 hm
        rw [hk2]; rfl
      · have hk := linkP_told hE hf
        rw [HRR.out] at hk
        injection hk with hk1 hk2
        injection hk1 with _ hk1
        rw [hk1] at hm
        obtain rfl := segs0 hm
        rw [hflx]
        symm
        exact decide_eq_true (by have := List.length_pos_iff.2 hf; omega)
    obtain ⟨q1, q2⟩ := HSG.out
    have m1 := kM.cell 1
    have p0 := kP.cell 0
    have p1 := kP.cell 1
    have HOK := Lib.hid hok
    have HC := Lib.hid hc
    have HNB := Lib.hid hnb
    obtain ⟨tb, htb⟩ : ∃ t, decide (0 < fl.length) = t := ⟨_, rfl⟩
    rw [htb] at q2
    rw [q2] at q1
    obtain ⟨all, hall⟩ : ∃ all, all = (faultsP p.er).map Flt.x := ⟨_, rfl⟩
    have hfe : fl = all ++ r := by rw [hflx, hrest, hall]
    have HFE := Lib.hid hfe
    have HAL := Lib.hid hall
    have hln : fl.length = all.length + r.length := by rw [hfe, List.length_append]
    clear hok hrest hE hm hflx hl0 HRR HSG hfe hall hc hnb
    have HLN := Lib.hid hln
    have HLEN := Lib.hid hlen
    clear hlen hn0 hn1 hln
    go_wp2_with fail
    refine (faults_any p w3 h1).mono ?_
    rintro e w4 ⟨v4, rfl, _, hv4, hb4⟩
    have hF := hv4 HC.out
    rw [HC.out]
    rw [flts_x, ← HAL.out] at hF
    rw [show (faultsP p.er).length = all.length by rw [HAL.out, List.length_map]] at hF
    obtain ⟨A4, c4, rfl, hc4, hc5⟩ := own_form hF
    have rF := Reads.of_own hF
    replace hfl := (hfl.below hb4).more hb4.size
    replace kP := kP.all hb4
    replace h1 := h1.all hb4
    replace hb := hb.trans (hb4.mono hb.size)
    clear hb4 hv4 hF m1 p0 p1 kM q1 q2
    have hlen := HLEN.out
    have hln := HLN.out
    have hal : all.length ≤ 1021 := by omega
    have hrl : r.length ≤ 1021 := by omega
    have hsub : fl.length - all.length = r.length := by omega
    have HSUB := Lib.hid hsub
    have q3 : decide (fl.length < all.length) = false := decide_eq_false (by omega)
    have q4 : decide ((fl.length : Int) < (all.length : Int)) = false := decide_eq_false (by omega)
    have hac : all.length ≤ cu := by omega
    have haf : all.length ≤ fl.length := by omega
    have hpre : Reads w4 w4.heap.size 4 Au all.length (flxsV all) := by
      have := hfl.prefix_ (m := all.length) (by omega)
      rw [HFE.out, flxsV_take] at this
      exact this
    have HEQ := Lib.hid (equalFlxs_any Au A4 cu c4 all all w4 hpre rF (by omega))
    have hdr : Reads w4 w4.heap.size 4 (if cu = all.length then Au else Au.map (·.add (all.length * 4))) r.length (flxsV r) := by
      have := hfl.cut (k := all.length) (cap := cu) (by omega) hcu
      rw [hsub] at this
      rw [show flxsV fl = flxsV (all ++ r) by rw [HFE.out], flxsV_drop] at this
      exact this
    have HDR := Lib.hid hdr
    have HFR := Lib.hid hfl
    clear hln hsub hpre hdr hfl rF hlen hal hrl
    by_cases hr0 : r.length = 0
    · have hz : fl.length - all.length = 0 := by rw [HSUB.out]; exact hr0
      have hz2 : decide (0 < fl.length - all.length) = false := decide_eq_false (by omega)
      have hz3 : decide ((0 : Int) < ((fl.length - all.length : Nat) : Int)) = false := decide_eq_false (by omega)
      clear hr0
      rcases Decidable.em (cu = all.length) with rfl | hcap
      all_goals
        go_wp2_with (go_at_call 52; ((with_reducible refine HEQ.out.mono ?_); rintro e w5 ⟨he, hb5⟩; rw [show (all == all) = true from by simp] at he; subst he))
        refine wp_loop_rounds 1 ?_
        rw [rounds_succ]
        go_wp2_with fail
        go_ret
        exact ⟨rfl, hb.trans (hb5.mono hb.size)⟩
    · have hcap : ¬ cu = all.length := by
        have := HLN.out
        omega
      obtain ⟨b0, o0, rfl, _, _⟩ := HFR.out.2 (by have := HLN.out; omega)
      have hdr := HDR.out
      rw [if_neg hcap] at hdr
      simp only [Option.map_some, add_none] at hdr
      have HD2 := Lib.hid hdr
      clear hdr hr0
      go_wp2_with (go_at_call 52; ((with_reducible refine HEQ.out.mono ?_); rintro e w5 ⟨he, hb5⟩; rw [show (all == all) = true from by simp] at he; subst he))
      have hsub := HSUB.out
      rw [hsub]
      have hrm : r.length ≤ 1021 := by have := HLN.out; have := HLEN.out; omega
      clear hsub HSUB
      go_loopw [66] (fun i wr => ∃ k : Nat, k ≤ r.length ∧ i = .int .i64 k ∧ Below w4.heap.size w4 wr) (fun i _ => r.length - (intOf i).toNat)
      case atStart => exact ⟨0, Nat.zero_le _, rfl, hb5⟩
      case round =>
        obtain ⟨k, hk, rfl, hbr⟩ := hrel
        by_cases hlt : k < r.length
        · obtain ⟨f, hf⟩ : ∃ f, r[k]? = some f := ⟨_, List.getElem?_eq_getElem hlt⟩
          have hfo := HOK.out f (List.mem_of_getElem? hf)
          obtain ⟨b, off, hae, bl, c0, c1, c2, c3⟩ := flx_get (HD2.out.below hbr) hf
          injection hae with hae
          injection hae with e1 e2
          subst e1 e2
          have kPr := kP.all hbr
          have h1r := h1.keep hbr hbr.size
          clear hf
          go_upto_region 12 with (fail)
          have kF := Blk.new wr 114 #[.int .i64 f.e, .string f.name, .int .i64 f.frag, .int .i64 f.at_]
          have hbx : Below wr.heap.size wr (wr.alloc (.cells #[.int .i64 f.e, .string f.name, .int .i64 f.frag, .int .i64 f.at_] 114)) := by (repeat' (first | exact Below.refl _ _ | assumption | refine Below.setCell ?_ (by first | omega | exact Below.size (by assumption) | (simp; done) | (simp; omega)) _ | refine Below.alloc ?_ (by first | omega | exact Below.size (by assumption) | (simp; done) | (simp; omega)) _ | refine Below.drew ?_ | refine below_drewN ?_ _))
          replace kPr := kPr.all hbx
          replace h1r := h1r.all hbx
          replace hbr := hbr.trans (hbx.mono hbr.size)
          obtain ⟨gF, hgF⟩ : ∃ g, g = wr.heap.size := ⟨_, rfl⟩
          obtain ⟨W6, hW6⟩ : ∃ W, W = wr.alloc (.cells #[.int .i64 f.e, .string f.name, .int .i64 f.frag, .int .i64 f.at_] 114) := ⟨_, rfl⟩
          rw [← hgF] at kF ⊢
          rw [← hW6] at kF kPr h1r hbr ⊢
          clear hW6 hgF hbx c0 c1 c2 c3 bl
          have f0 := kF.cell 0
          have f1 := kF.cell 1
          have p0 := kPr.cell 0
          have p1 := kPr.cell 1
          rcases hfo with ⟨h1', h2', h3'⟩ | ⟨h1', h2', h3', h4', g, hg, x, hx, hxa⟩
          · have qn : (f.name.toList == entry.toList) = true := by rw [h1']; simp
            rw [h2'] at kF f0
            have HFN : Hid ((findP p.er entry).2 = 7) := by show _ = _; rw [findP_good HC.out]; exact h3'
            clear h1' h2' h3'
            go_wp2_with fail
            refine (findOut_any p entry W6 h1r).mono ?_
            rintro e w7 ⟨rfl, hb7⟩
            rw [HFN.out]
            replace kF := kF.all hb7
            replace hbr := hbr.trans (hb7.mono hbr.size)
            have f0 := kF.cell 0
            clear hb7 p0 p1 f1 h1r kPr
            generalize (findP p.er entry).1 = dd
            go_upto_region 14 with (fail)
            have hbx : Below w7.heap.size w7 (w7.alloc (.cells #[.string (dd).name, .int .i64 (dd).kind, .int .i64 (dd).frag, .int .i64 (dd).at_, .int .i64 (dd).size, .int .i64 (dd).align] 78)) := by (repeat' (first | exact Below.refl _ _ | assumption | refine Below.setCell ?_ (by first | omega | exact Below.size (by assumption) | (simp; done) | (simp; omega)) _ | refine Below.alloc ?_ (by first | omega | exact Below.size (by assumption) | (simp; done) | (simp; omega)) _ | refine Below.drew ?_ | refine below_drewN ?_ _))
            replace hbr := hbr.trans (hbx.mono hbr.size)
            replace kF := kF.all hbx
            have f0 := kF.cell 0
            clear hbx
            go_wp2_with fail
            go_roundw
            case rel => exact ⟨k + 1, by omega, by go_num, hbr⟩
            case measure => simp [intOf]; omega
          · have qn : (f.name.toList == entry.toList) = false := by
              rw [h1']
              have hn : 0 < entry.size := by
                have := HNB.out
                rcases Nat.eq_zero_or_pos entry.size with h | h
                · rw [nameB_no (.inl h)] at this
                  cases this
                · exact h
              rw [beq_eq_false_iff_ne]
              intro he
              have := toList_some hn
              rw [← he] at this
              rw [toList_nil (s := ⟨#[]⟩) rfl] at this
              exact absurd this (by decide)
            obtain ⟨n1, hn1⟩ : ∃ n : Nat, f.frag = n := ⟨f.frag.toNat, by omega⟩
            have hnl : n1 < p.frs.length := by simp [PtM.er] at h3'; omega
            obtain ⟨y, hy⟩ : ∃ y, p.frs[n1]? = some y := ⟨_, List.getElem?_eq_getElem hnl⟩
            have hgy : g = y.f := by
              rw [hn1, Int.toNat_natCast] at hg
              simp [PtM.er, hy] at hg
              exact hg.symm
            have f2 := kF.cell 2
            have f3 := kF.cell 3
            have qe : f.name.toList.isEmpty = true := by rw [h1', toList_nil (s := ⟨#[]⟩) rfl]; rfl
            rw [hn1] at f2
            obtain ⟨b', off', hfa, bl', y0, y1, y2, y3, y4, y5⟩ := fg_get h1r.fr hy
            have hyg := h1r.each y (List.mem_of_getElem? hy)
            have HAny : Hid (y.f.rs.any (fun x => x.at_ == f.at_) = true) := List.any_eq_true.2 ⟨x, by rw [← hgy]; exact hx, by simp [hxa]⟩
            have q5 : decide ((n1 : Int) < 0) = false := decide_eq_false (by omega)
            have q6 : decide ((p.frs.length : Int) ≤ (n1 : Int)) = false := decide_eq_false (by omega)
            have q7 : decide (p.frs.length ≤ n1) = false := decide_eq_false (by omega)
            have HCL : Hid (∀ x ∈ y.f.rs, ∀ W', Below W6.heap.size W6 W' → Calls Try.prog 55 #[.agg #[.int .i64 x.at_, .int .i64 x.kind, .string x.name, .int .i64 x.frag, .int .i64 x.add], .pointer (some ⟨gF, 0, none⟩)] W' fun e w' => e = .returned (.bool (x.at_ == f.at_)) ∧ Below W'.heap.size W' w') := fun x _ W' hbW => linkFaults1_any x f gF W' (kF.all hbW)
            rw [hfa] at p0
            have HHF := Lib.hid (hasFRel_any y.ra y.rc y.f.rs (fun x => x.at_ == f.at_) gF W6 hyg.re hyg.rm HCL.out)
            clear h1' h2' h3' hg hx hxa hgy hy hn1 HCL hyg h1r hfa
            rcases h4' with h8 | h8
            all_goals
              rw [h8] at f0
              clear h8
              go_wp2_with (go_at_call 54; ((with_reducible refine HHF.out.mono ?_); rintro e w7 ⟨rfl, hb7⟩; rw [HAny.out]))
              go_roundw
              case rel => exact ⟨k + 1, by omega, by go_num, hbr.trans (hb7.mono hbr.size)⟩
              case measure => simp [intOf]; omega
        · obtain rfl : k = r.length := by omega
          go_wp2_with fail
          go_ret
          exact ⟨rfl, hb.trans (hbr.mono hb.size)⟩
  · have hx0 : (x != 0) = true := by simpa using hx
    clear hx hm HRR
    go_wp2_with fail
    refine (linked_any w3).mono ?_
    rintro e w4 ⟨rfl, hb4⟩
    go_wp2
    go_ret
    exact ⟨rfl, hb.trans (hb4.mono hb.size)⟩
end Go.Proofs.Ytbhjdinjoonngaa
