/- ropewalklaw.LinkPlaces: the call returns true. -/
import Derived.Test.YtbhjdinjoonngaaLinkPlacesD
import Derived.Test.YtbhjdinjoonngaaLinkMovedW
import Derived.Test.YtbhjdinjoonngaaLoadR
import Derived.Test.YtbhjdinjoonngaaFillQ
import Derived.Test.YtbhjdinjoonngaaMakeB
import Derived.IntWalk
import Derived.Deep.RegionHeld3
import Derived.Deep.CutBlock
set_option linter.all false
namespace Go.Proofs.Ytbhjdinjoonngaa
open Go.RowKit

theorem lp_rels8 {many : Int} {f : Frg} (h : ckFrag many f = 0) : f.rs.length ≤ 8 := by
  unfold ckFrag at h
  split at h
  · cases h
  · split at h
    · cases h
    · split at h
      · cases h
      · rename_i h3; omega
theorem bytes_at {l : List UInt8} {k : Nat} {u : UInt8} (h : l[k]? = some u) : (bytesV l)[k]? = some (byteV u) := by unfold bytesV; rw [List.getElem?_map, h]; rfl
theorem SegsAt.drewP {w : World} {A : Option Addr} {segs : List Seg} (h : SegsAt w w.heap.size A segs) : SegsAt w.drew w.drew.heap.size A segs := ⟨h.row.drew, fun s hs => (h.each s hs).drew, h.small, h.smalls⟩

set_option maxRecDepth 100000 in
set_option maxHeartbeats 20000000 in
theorem linkPlaces_any (p : PtM) (base : Int) (entry : ByteArray) (w : World) (h : p.At w w.heap.size) :
    Calls Try.prog 11 #[.agg #[.slice p.fa p.frs.length p.fc, .slice p.da p.dfs.length p.dc], .int .i64 base, .string entry] w fun e w' => e = .returned (.bool true) ∧ Below w.heap.size w w' := by
  have kP := Blk.new w 44 #[.slice p.fa p.frs.length p.fc, .slice p.da p.dfs.length p.dc]
  have hb : Below w.heap.size w (w.alloc (.cells #[.slice (p).fa (p).frs.length (p).fc, .slice (p).da (p).dfs.length (p).dc] 44)) := by (repeat' (first | exact Below.refl _ _ | assumption | refine Below.setCell ?_ (by first | omega | exact Below.size (by assumption) | (simp; done) | (simp; omega)) _ | refine Below.alloc ?_ (by first | omega | exact Below.size (by assumption) | (simp; done) | (simp; omega)) _ | refine Below.drew ?_ | refine below_drewN ?_ _))
  have h1 := h.all hb
  clear h
  go_enter Try.func11, Try.ntmps11
  go_wp2_with fail
  obtain ⟨gP, hgP⟩ : ∃ g, g = w.heap.size := ⟨_, rfl⟩
  obtain ⟨W, hW⟩ : ∃ W, W = w.alloc (.cells #[.slice (p).fa (p).frs.length (p).fc, .slice (p).da (p).dfs.length (p).dc] 44) := ⟨_, rfl⟩
  rw [show Blk (w.alloc (.cells #[.slice (p).fa (p).frs.length (p).fc, .slice (p).da (p).dfs.length (p).dc] 44)) w.heap.size = Blk W gP by rw [hW, hgP]] at kP
  rw [← hgP]
  rw [← hW] at hb h1 ⊢
  clear hW hgP
  refine (link_any p base entry W h1).mono ?_
  rintro e w1 ⟨A, c, segs, Au, cu, rfl, hm, hsa, hfl, _, hb1⟩
  have kP := kP.all hb1
  have h1 := h1.all hb1
  have hb := hb.trans (hb1.mono hb.size)
  clear hb1 hfl
  obtain ⟨⟨⟨en, sg⟩, fl, x⟩, hr⟩ : ∃ t, linkP p.er base entry = t := ⟨_, rfl⟩
  rw [hr] at hm ⊢
  dsimp only at hm ⊢
  have HRR := Lib.hid hr
  clear hr
  go_upto_region 2 with (fail)
  have kM := Blk.new w1 87 #[.int .i64 en, .slice A segs.length c]
  have hbx : Below w1.heap.size w1 (w1.alloc (.cells #[.int .i64 en, .slice A segs.length c] 87)) := by (repeat' (first | exact Below.refl _ _ | assumption | refine Below.setCell ?_ (by first | omega | exact Below.size (by assumption) | (simp; done) | (simp; omega)) _ | refine Below.alloc ?_ (by first | omega | exact Below.size (by assumption) | (simp; done) | (simp; omega)) _ | refine Below.drew ?_ | refine below_drewN ?_ _))
  obtain ⟨gM, hgM⟩ : ∃ g, g = w1.heap.size := ⟨_, rfl⟩
  obtain ⟨W2, hW2⟩ : ∃ W, W = w1.alloc (.cells #[.int .i64 en, .slice A segs.length c] 87) := ⟨_, rfl⟩
  replace hsa := hsa.below hbx
  replace kP := kP.all hbx
  replace h1 := h1.all hbx
  replace hb := hb.trans (hbx.mono hb.size)
  rw [← hgM] at kM ⊢
  rw [← hW2] at kM hsa kP h1 hb ⊢
  clear hW2 hgM hbx
  go_wp2_with fail
  refine (linked_any W2).mono ?_
  rintro e w3 ⟨rfl, hb3⟩
  replace kM := kM.all hb3
  replace hsa := hsa.below hb3
  replace kP := kP.all hb3
  replace h1 := h1.all hb3
  replace hb := hb.trans (hb3.mono hb.size)
  clear hb3
  by_cases hx : x = 0
  · subst hx
    have hE : linkE p.er base entry = 0 := linkP_zero (by rw [HRR.out])
    obtain ⟨hc, hnb, hl0⟩ := linkE_zero hE
    obtain ⟨_, hn0, hn1, _⟩ := layE_zero hl0
    obtain ⟨n, rfl⟩ : ∃ n : Nat, base = n := ⟨base.toNat, by omega⟩
    rcases Nat.eq_zero_or_pos fl.length with hf | hf
    · have hf0 := List.eq_nil_of_length_eq_zero hf
      subst hf0
      have q0 : decide ((0 : Int) < (([] : List Flx).length : Int)) = false := rfl
      have hflx : linkFl p.er n entry = [] := by rw [← linkP_fl hE, HRR.out]
      have hok := linkP_ok hE hflx
      rw [HRR.out] at hok
      have hen : en = (whereA p.er n entry).1 := by injection hok with h1 _; injection h1
      have hsg : sg = [segP p.er n 1 1 [1], segP p.er n 2 3 [2, 3], segP p.er n 4 5 [4, 5]] := by injection hok with h1 _; injection h1
      have HWE := Lib.hid (entry_clean hc hflx)
      have HEN := Lib.hid hen
      have HFX := Lib.hid hflx
      rw [hsg] at hm
      obtain ⟨s1, s2, s3, rfl, he1, he2, he3⟩ := segs3 hm
      have HI := plcBy_of hl0 hflx hen he1 he2 he3
      obtain ⟨S, hS⟩ : ∃ S, S = [s1, s2, s3] := ⟨_, rfl⟩
      rw [← hS] at hsa kM HI
      have ib0 := HI.b0
      have ib1 := HI.b1
      replace HI := Lib.hid HI
      have hf60 := (small_of hc).fr
      have HL0 := Lib.hid hl0
      have HC := Lib.hid hc
      have HN := Lib.hid (And.intro hn0 hn1)
      have p0 := kP.cell 0
      have p1 := kP.cell 1
      clear hok hen hsg hm he1 he2 he3 hl0 hc hE hnb hflx hf HRR hn0 hn1 hS
      go_wp2_with fail
      refine (lay_any p (n : Int) w3 h1).mono ?_
      rintro e w4 ⟨l, rfl, hr, hl, hb4⟩
      have hlc := lay_cells hr HL0.out
      rw [HL0.out, hlc]
      have hr2 := hr.trans (layR_zero HL0.out)
      have hlA := hl
      obtain ⟨hlf, _, _⟩ := hl
      have HRL := Lib.hid hr
      rw [hr2] at hlf
      dsimp only at hlf
      rw [show (layFr p.er n).length = p.frs.length by unfold layFr; simp [PtM.er]] at hlf
      replace kP := kP.all hb4
      replace kM := kM.all hb4
      replace hsa := hsa.below hb4
      replace h1 := h1.all hb4
      replace hb := hb.trans (hb4.mono hb.size)
      clear hb4 hr hr2 hlc p0 p1 q0
      go_upto_region 5 with (fail)
      have kL := Blk.new w4 93 #[(.slice l.fa p.frs.length l.fc), (.slice l.na (layEnd p.er n).ns.length l.nc), (.slice l.ca (layEnd p.er n).cs.length l.cc), (.int .i64 0), (.int .i64 (secFrom p.er.frs n 1 : Nat)), (.int .i64 (secFrom p.er.frs n 2 : Nat)), (.int .i64 (secFrom p.er.frs n 3 : Nat)), (.int .i64 (secFrom p.er.frs n 4 : Nat)), (.int .i64 (secFrom p.er.frs n 5 : Nat)), (.int .i64 0), (.int .i64 (toN p.er n 1 : Nat)), (.int .i64 (toN p.er n 2 : Nat)), (.int .i64 (toN p.er n 3 : Nat)), (.int .i64 (toN p.er n 4 : Nat)), (.int .i64 (toN p.er n 5 : Nat))]
      have hbx : Below w4.heap.size w4 (w4.alloc (.cells #[(.slice l.fa p.frs.length l.fc), (.slice l.na (layEnd p.er n).ns.length l.nc), (.slice l.ca (layEnd p.er n).cs.length l.cc), (.int .i64 0), (.int .i64 (secFrom p.er.frs n 1 : Nat)), (.int .i64 (secFrom p.er.frs n 2 : Nat)), (.int .i64 (secFrom p.er.frs n 3 : Nat)), (.int .i64 (secFrom p.er.frs n 4 : Nat)), (.int .i64 (secFrom p.er.frs n 5 : Nat)), (.int .i64 0), (.int .i64 (toN p.er n 1 : Nat)), (.int .i64 (toN p.er n 2 : Nat)), (.int .i64 (toN p.er n 3 : Nat)), (.int .i64 (toN p.er n 4 : Nat)), (.int .i64 (toN p.er n 5 : Nat))] 93)) := by (repeat' (first | exact Below.refl _ _ | assumption | refine Below.setCell ?_ (by first | omega | exact Below.size (by assumption) | (simp; done) | (simp; omega)) _ | refine Below.alloc ?_ (by first | omega | exact Below.size (by assumption) | (simp; done) | (simp; omega)) _ | refine Below.drew ?_ | refine below_drewN ?_ _))
      replace kP := kP.all hbx
      replace kM := kM.all hbx
      replace hsa := hsa.below hbx
      replace hlf := (hlf.below hbx).more hbx.size
      replace hlA := hlA.keep hbx hbx.size
      replace h1 := h1.all hbx
      replace hb := hb.trans (hbx.mono hb.size)
      obtain ⟨gL, hgL⟩ : ∃ g, g = w4.heap.size := ⟨_, rfl⟩
      obtain ⟨W5, hW5⟩ : ∃ W', W' = w4.alloc (.cells #[(.slice l.fa p.frs.length l.fc), (.slice l.na (layEnd p.er n).ns.length l.nc), (.slice l.ca (layEnd p.er n).cs.length l.cc), (.int .i64 0), (.int .i64 (secFrom p.er.frs n 1 : Nat)), (.int .i64 (secFrom p.er.frs n 2 : Nat)), (.int .i64 (secFrom p.er.frs n 3 : Nat)), (.int .i64 (secFrom p.er.frs n 4 : Nat)), (.int .i64 (secFrom p.er.frs n 5 : Nat)), (.int .i64 0), (.int .i64 (toN p.er n 1 : Nat)), (.int .i64 (toN p.er n 2 : Nat)), (.int .i64 (toN p.er n 3 : Nat)), (.int .i64 (toN p.er n 4 : Nat)), (.int .i64 (toN p.er n 5 : Nat))] 93) := ⟨_, rfl⟩
      rw [← hgL] at kL ⊢
      rw [← hW5] at kL kP kM hsa hlf hlA h1 hb ⊢
      clear hW5 hgL hbx
      have x0 := kL.cell 0
      have p0 := kP.cell 0
      go_upto_region 7 with (fail)
      have HWH := Lib.hid (where_any p l n entry W5 h1 hlA HRL.out HL0.out)
      clear x0
      have p1 := kP.cell 1
      (have x0 := kL.cell 0; have x1 := kL.cell 1; have x2 := kL.cell 2; have x3 := kL.cell 3; have x4 := kL.cell 4; have x5 := kL.cell 5; have x6 := kL.cell 6; have x7 := kL.cell 7; have x8 := kL.cell 8; have x9 := kL.cell 9; have x10 := kL.cell 10; have x11 := kL.cell 11; have x12 := kL.cell 12; have x13 := kL.cell 13; have x14 := kL.cell 14)
      go_wp2_with fail
      refine HWH.out.mono ?_
      rintro e w6 ⟨rfl, hb6⟩
      rw [HWE.out, ← HEN.out]
      clear x0 x1 x2 x3 x4 x5 x6 x7 x8 x9 x10 x11 x12 x13 x14 p0 p1 HWH
      replace kP := kP.all hb6
      replace kM := kM.all hb6
      replace kL := kL.all hb6
      replace hsa := hsa.below hb6
      replace hlf := (hlf.below hb6).more hb6.size
      replace hlA := hlA.keep hb6 hb6.size
      replace h1 := h1.all hb6
      replace hb := hb.trans (hb6.mono hb.size)
      clear hb6
      have m0 := kM.cell 0
      have p0 := kP.cell 0
      go_wp2_with fail
      clear m0 p0
      go_loopw [84] (fun i wr => ∃ k : Nat, k ≤ p.frs.length ∧ i = .int .i64 k ∧ Below w6.heap.size w6 wr) (fun i _ => p.frs.length - (intOf i).toNat)
      case atStart => exact ⟨0, Nat.zero_le _, rfl, Below.refl _ _⟩
      case round =>
        obtain ⟨i, hi, rfl, hbr⟩ := hrel
        by_cases hlt : i < p.frs.length
        · obtain ⟨x, hx⟩ : ∃ x, p.frs[i]? = some x := ⟨_, List.getElem?_eq_getElem hlt⟩
          have hxe : p.er.frs[i]? = some x.f := by simp [PtM.er, hx]
          have hAr := h1.keep hbr hbr.size
          obtain ⟨b, off, hfa, bl, c0, c1, c2, c3, c4, c5⟩ := fg_get hAr.fr hx
          have hxg := hAr.each x (List.mem_of_getElem? hx)
          have hlfr := (hlf.below hbr).more hbr.size
          obtain ⟨b1, o1, u1, e1, z1, f1, d1⟩ := hlfr.at_ hlt
          have E1 := Lib.hid e1
          clear e1
          rw [natsV_at (show (layFr p.er n)[i]? = some (adrOf p.er.frs n i) by unfold layFr; rw [List.getElem?_map, List.getElem?_range (List.getElem?_eq_some_iff.1 hxe).1]; rfl)] at f1
          injection f1 with f1
          subst f1
          have hfine := frag_fine HC.out (List.mem_of_getElem? hxe)
          have hl64 := hfine.len
          have hrl8 := lp_rels8 (((ok_iff p.er).1 HC.out).fr x.f (List.mem_of_getElem? hxe))
          have HFI := Lib.hid hfine.rels
          have had := adr_le HL0.out hxe
          have ha6 : adrOf p.er.frs n i + x.f.ln ≤ 65536 := by omega
          have HLN : Hid (x.f.sect ≠ 5 → x.f.ln = x.f.bs.length) := hfine.ln
          have HXE := Lib.hid hxe
          have HXX := Lib.hid hx
          have HFA := Lib.hid hfa
          rw [hfa]
          clear hx hxe hAr hfa hfine had
          go_upto_region 13 with (fail)
          have kX := Blk.new wr 100 #[.int .i64 x.f.sect, .int .i64 x.f.align, .string x.f.group, .slice x.ba x.f.bs.length x.bc, .int .i64 x.f.size, .slice x.ra x.f.rs.length x.rc]
          have hbx : Below wr.heap.size wr (wr.alloc (.cells #[.int .i64 x.f.sect, .int .i64 x.f.align, .string x.f.group, .slice x.ba x.f.bs.length x.bc, .int .i64 x.f.size, .slice x.ra x.f.rs.length x.rc] 100)) := by (repeat' (first | exact Below.refl _ _ | assumption | refine Below.setCell ?_ (by first | omega | exact Below.size (by assumption) | (simp; done) | (simp; omega)) _ | refine Below.alloc ?_ (by first | omega | exact Below.size (by assumption) | (simp; done) | (simp; omega)) _ | refine Below.drew ?_ | refine below_drewN ?_ _))
          have kLr := (kL.all hbr).all hbx
          have kMr := (kM.all hbr).all hbx
          have hsr := (hsa.below hbr).below hbx
          replace hxg := hxg.all hbx
          replace d1 := (hbx.cell (p := ⟨b1, o1 + i, none⟩) z1).trans d1
          replace hbr := hbr.trans (hbx.mono hbr.size)
          obtain ⟨gX, hgX⟩ : ∃ g, g = wr.heap.size := ⟨_, rfl⟩
          obtain ⟨W7, hW7⟩ : ∃ W, W = wr.alloc (.cells #[.int .i64 x.f.sect, .int .i64 x.f.align, .string x.f.group, .slice x.ba x.f.bs.length x.bc, .int .i64 x.f.size, .slice x.ra x.f.rs.length x.rc] 100) := ⟨_, rfl⟩
          rw [← hgX] at kX ⊢
          rw [← hW7] at kX hbr kLr kMr hsr d1 hxg ⊢
          have zb1 : b1 < W7.heap.size := by rw [hW7]; simp; omega
          clear hgX hW7 hbx c0 c1 c2 c3 c4 c5 z1 hlfr
          have x0 := kX.cell 0
          by_cases h5 : x.f.sect = 5
          · have q5 : (x.f.sect == 5) = true := by simpa using h5
            clear h5
            go_wp2_with fail
            go_roundw
            case rel => exact ⟨i + 1, by omega, by go_num, hbr⟩
            case measure => simp [intOf]; omega
          · have q5 : (x.f.sect == 5) = false := by simpa using h5
            have hln5 := HLN.out h5
            have HRNG := Lib.hid (HI.out.rng i x.f HXE.out h5)
            obtain ⟨fb, hfb⟩ : ∃ l, l = (filledP p.er n i).1 := ⟨_, rfl⟩
            have hfl : fb.length = x.f.bs.length := by rw [hfb]; exact HI.out.len i x.f HXE.out
            have HREL : Hid (∀ r ∈ x.f.rs, (targetA p.er n r).2 = 0 ∧ (valueRes r.kind (adrOf p.er.frs n i + r.at_) (targetA p.er n r).1 r.add).2 = 0 ∧ getRes fb r.at_ r.kind = ((valueRes r.kind (adrOf p.er.frs n i + r.at_) (targetA p.er n r).1 r.add).1, 0)) := by rw [hfb]; exact HI.out.rel i x.f HXE.out
            have HELS : Hid (∀ q : Nat, (∀ r ∈ x.f.rs, (q : Int) < r.at_ ∨ r.at_ + wideOf r.kind ≤ q) → fb[q]? = x.f.bs[q]?) := by rw [hfb]; exact HI.out.els i x.f HXE.out
            rw [← hfb] at HRNG
            have HFL := Lib.hid hfl
            obtain ⟨a, hav⟩ : ∃ a, a = adrOf p.er.frs n i := ⟨_, rfl⟩
            rw [← hav] at d1 HRNG HREL ha6
            have HAV := Lib.hid hav
            have hra := range_any en (a : Int) (x.f.bs.length : Int) A c S W7.drew hsr.drewP (by omega) (by omega)
            rw [HRNG.out] at hra
            have HRA := Lib.hid hra
            have m0 := kMr.cell 0
            have m1 := kMr.cell 1
            have y0 := kLr.cell 0
            rw [E1.out] at y0
            have x3 := kX.cell 3
            have zM := kMr.lt
            have zL := kLr.lt
            have zX := kX.lt
            clear h5 hfb hfl hav hra
            go_upto_region 14 with (fail)
            go_region_held3 (fun w' => w'.cell? ⟨gM, 0, none⟩ = some (.int .i64 en) ∧ w'.cell? ⟨gM, 1, none⟩ = some (.slice A S.length c) ∧ w'.cell? ⟨gL, 0, none⟩ = some (.slice (some ⟨b1, o1, none⟩) p.frs.length l.fc) ∧ w'.cell? ⟨b1, o1 + i, none⟩ = some (.int .i64 (a : Nat)) ∧ w'.cell? ⟨gX, 3, none⟩ = some (.slice x.ba x.f.bs.length x.bc))
              (first | go_keep | exact ⟨(hb9.cell (p := ⟨gM, 0, none⟩) zM).trans m0, (hb9.cell (p := ⟨gM, 1, none⟩) zM).trans m1, (hb9.cell (p := ⟨gL, 0, none⟩) zL).trans y0, (hb9.cell (p := ⟨b1, o1 + i, none⟩) zb1).trans d1, (hb9.cell (p := ⟨gX, 3, none⟩) zX).trans x3⟩)
              (first | (go_at_call 57; (with_reducible refine HRA.out.mono ?_); rintro e w9 ⟨v9, rfl, ⟨Ab, cb, rfl, hrb⟩, hb9⟩))
            have hb79 : Below W7.heap.size W7 w9 := (Below.refl W7.heap.size W7).drew.trans hb9
            replace kX := kX.all hb79
            replace kLr := kLr.all hb79
            replace hxg := hxg.all hb79
            replace d1 := (hb79.cell (p := ⟨b1, o1 + i, none⟩) zb1).trans d1
            replace zb1 := Nat.lt_of_lt_of_le zb1 hb79.size
            replace hbr := hbr.trans (hb79.mono hbr.size)
            rw [HFL.out] at hrb ⊢
            clear m0 m1 y0 x3 x0 zM zL zX hb9 hb79 HRA kMr hsr
            have x3 := kX.cell 3
            have x5 := kX.cell 5
            have hmk := make_boolB x.f.bs.length (by omega)
            go_upto_region 18 with (fail)
            have kF := Blk.new w9 4 (boolsV (List.replicate x.f.bs.length false)).toArray
            have hbx : Below w9.heap.size w9 (w9.alloc (.cells (boolsV (List.replicate x.f.bs.length false)).toArray 4)) := by (repeat' (first | exact Below.refl _ _ | assumption | refine Below.setCell ?_ (by first | omega | exact Below.size (by assumption) | (simp; done) | (simp; omega)) _ | refine Below.alloc ?_ (by first | omega | exact Below.size (by assumption) | (simp; done) | (simp; omega)) _ | refine Below.drew ?_ | refine below_drewN ?_ _))
            obtain ⟨gF, hgF⟩ : ∃ g, g = w9.heap.size := ⟨_, rfl⟩
            have hgF9 : w9.heap.size ≤ gF := by omega
            obtain ⟨W10, hW10⟩ : ∃ W', W' = w9.alloc (.cells (boolsV (List.replicate x.f.bs.length false)).toArray 4) := ⟨_, rfl⟩
            rw [← hgF] at kF ⊢
            rw [← hW10] at kF hbx ⊢
            clear hW10 hgF hmk x3 x5
            have x5 := (kX.all hbx).cell 5
            go_wp2_with fail
            clear x5
            go_loopw [121] (fun j wr => ∃ (k : Nat) (fs : List Bool), k ≤ x.f.rs.length ∧ j = .int .i64 k ∧ Hid (Marked (x.f.rs.take k) x.f.bs.length fs) ∧ Blk wr gF 4 (boolsV fs).toArray ∧ Below w9.heap.size w9 wr) (fun j _ => x.f.rs.length - (intOf j).toNat)
            case atStart => exact ⟨0, _, Nat.zero_le _, rfl, Lib.hid (marked_nil _), kF, hbx⟩
            case round =>
              clear kF hbx
              obtain ⟨k, fs, hk, rfl, hmk, kF, hb9r⟩ := hrel
              have HBR := Lib.hid hbr
              by_cases hkl : k < x.f.rs.length
              · obtain ⟨r, hr⟩ : ∃ r, x.f.rs[k]? = some r := ⟨_, List.getElem?_eq_getElem hkl⟩
                have hrm := List.mem_of_getElem? hr
                obtain ⟨b2, o2, hra, bl2, r0, r1, r2, r3, r4⟩ := rel_get (hxg.re.below hb9r) hr
                obtain ⟨t1, t2, t3⟩ := HREL.out r hrm
                have hri := HFI.out.mem (Int.le_refl 0) r hrm
                have hrf := (rel_in HC.out HXE.out hrm).1
                have HHR := Lib.hid hr
                rw [hra]
                clear hr hrm hra
                go_upto_region 21 with (fail)
                have kR := Blk.new wr 119 #[.int .i64 r.at_, .int .i64 r.kind, .string r.name, .int .i64 r.frag, .int .i64 r.add]
                have hbx : Below wr.heap.size wr (wr.alloc (.cells #[.int .i64 (r).at_, .int .i64 (r).kind, .string (r).name, .int .i64 (r).frag, .int .i64 (r).add] 119)) := by (repeat' (first | exact Below.refl _ _ | assumption | refine Below.setCell ?_ (by first | omega | exact Below.size (by assumption) | (simp; done) | (simp; omega)) _ | refine Below.alloc ?_ (by first | omega | exact Below.size (by assumption) | (simp; done) | (simp; omega)) _ | refine Below.drew ?_ | refine below_drewN ?_ _))
                replace kF := kF.all hbx
                replace hb9r := hb9r.trans (hbx.mono hb9r.size)
                obtain ⟨gR, hgR⟩ : ∃ g, g = wr.heap.size := ⟨_, rfl⟩
                obtain ⟨W11, hW11⟩ : ∃ W, W = wr.alloc (.cells #[.int .i64 (r).at_, .int .i64 (r).kind, .string (r).name, .int .i64 (r).frag, .int .i64 (r).add] 119) := ⟨_, rfl⟩
                rw [← hgR] at kR ⊢
                rw [← hW11] at kR kF hb9r ⊢
                clear hW11 hgR hbx r0 r1 r2 r3 r4 bl2
                have kL11 := kLr.all hb9r
                have HTD : Hid (targetA p.er n r = if 0 < r.name.size then whereA p.er n r.name else if r.frag < 0 then (0, 8) else ((adrOf p.er.frs n r.frag.toNat : Int), 0)) := by show _ = _; rfl
                obtain ⟨⟨tg, te⟩, htg⟩ : ∃ t, targetA p.er n r = t := ⟨_, rfl⟩
                rw [htg] at t1 t2 t3 HTD
                have hti := target_in HL0.out HXE.out (List.mem_of_getElem? HHR.out)
                rw [htg] at hti
                dsimp only at t1 t2 t3 hti
                subst t1
                have htb : 0 ≤ tg ∧ tg ≤ 65536 := by
                  rcases hti with h | h | h | h
                  · exact h.2
                  · exact absurd h (by decide)
                  · exact absurd h (by decide)
                  · exact absurd h (by decide)
                have HTB := Lib.hid htb
                have HT2 := Lib.hid t2
                have HT3 := Lib.hid t3
                have HRI := Lib.hid hri
                have HRF := Lib.hid hrf
                clear hti htg htb t2 t3 hri hrf
                go_upto_block 4 with (fail)
                go_cut [19] (fun tv wx => tv = .int .i64 tg ∧ Below W11.heap.size W11 wx)
                case first =>
                  have s2 := kR.cell 2
                  have hbA := hbr.trans (hb9r.mono hbr.size)
                  rcases Nat.eq_zero_or_pos r.name.size with hn | hn
                  · have q1 := toList_nil hn
                    have HF2 := HTD.out
                    rw [if_neg (by omega)] at HF2
                    have hneg : ¬ r.frag < 0 := fun hneg => by
                      rw [if_pos hneg] at HF2
                      injection HF2 with _ h2
                      exact absurd h2 (by decide)
                    rw [if_neg hneg] at HF2
                    injection HF2 with HF3 _
                    have hfr := (HRF.out hn).2
                    obtain ⟨m, hm⟩ : ∃ m : Nat, r.frag = m := ⟨r.frag.toNat, by omega⟩
                    have hml : m < p.frs.length := by have := hfr; simp [PtM.er] at this; omega
                    have hme : m < p.er.frs.length := by simpa [PtM.er] using hml
                    have htm : tg = (adrOf p.er.frs n m : Nat) := by rw [HF3, hm]; rfl
                    obtain ⟨b3, o3, u3, e3, z3, f3, d3⟩ := (hlf.below hbA).at_ hml
                    rw [E1.out] at e3
                    injection e3 with e3
                    injection e3 with ea eb
                    subst ea eb
                    rw [natsV_at (show (layFr p.er n)[m]? = some (adrOf p.er.frs n m) by unfold layFr; rw [List.getElem?_map, List.getElem?_range hme]; rfl)] at f3
                    injection f3 with f3
                    subst f3
                    rw [← htm] at d3
                    have c0 := kL11.cell 0
                    rw [E1.out] at c0
                    have s3 := kR.cell 3
                    rw [hm] at s3
                    have q2 : decide ((m : Int) < 0) = false := decide_eq_false (by omega)
                    clear hn hneg HF3 hfr hm htm hme d1
                    go_wp2_with fail
                    go_meet
                    exact ⟨rfl, Below.refl _ _⟩
                  · have q1 := toList_one hn
                    have q2 := toList_some hn
                    have HF2 := HTD.out
                    rw [if_pos hn] at HF2
                    have HWH := where_any p l n r.name W11 (h1.keep hbA hbA.size) (hlA.keep hbA hbA.size) HRL.out HL0.out
                    rw [← HF2] at HWH
                    replace HWH := Lib.hid HWH
                    have p0 := (kP.all hbA).cell 0
                    have p1 := (kP.all hbA).cell 1
                    have x0 := kL11.cell 0
                    have x1 := kL11.cell 1
                    have x2 := kL11.cell 2
                    have x3 := kL11.cell 3
                    have x4 := kL11.cell 4
                    have x5 := kL11.cell 5
                    have x6 := kL11.cell 6
                    have x7 := kL11.cell 7
                    have x8 := kL11.cell 8
                    have x9 := kL11.cell 9
                    have x10 := kL11.cell 10
                    have x11 := kL11.cell 11
                    have x12 := kL11.cell 12
                    have x13 := kL11.cell 13
                    have x14 := kL11.cell 14
                    clear hn HF2 d1
                    go_wp2_with fail
                    refine HWH.out.mono ?_
                    rintro e w12 ⟨rfl, hb12⟩
                    clear x0 x1 x2 x3 x4 x5 x6 x7 x8 x9 x10 x11 x12 x13 x14 p0 p1 HWH s2
                    go_wp2_with fail
                    go_meet
                    exact ⟨rfl, hb12⟩
                case rest =>
                  obtain ⟨rfl, hb12⟩ := hcut
                  replace kR := kR.all hb12
                  replace kF := kF.all hb12
                  replace hb9r := hb9r.trans (hb12.mono hb9r.size)
                  clear hb12 kL11 HTD HRF
                  have hbA := hbr.trans (hb9r.mono hbr.size)
                  have c0 := (kLr.all hb9r).cell 0
                  rw [E1.out] at c0
                  have d1r := (hb9r.cell (p := ⟨b1, o1 + i, none⟩) zb1).trans d1
                  have s0 := kR.cell 0
                  have s1 := kR.cell 1
                  have s4 := kR.cell 4
                  have a0 := HRI.out.at0
                  have a1 := HRI.out.at1
                  have hww := HRI.out.wide
                  have hr64 : r.at_ ≤ 64 := by rcases hww with e | e <;> omega
                  obtain ⟨ra, hra⟩ : ∃ m : Nat, r.at_ = m := ⟨r.at_.toNat, by omega⟩
                  have hwr : IntKind.i64.wrap ((a : Int) + (ra : Int)) = (a : Int) + (ra : Int) := IntWalk.i64_in _ (by omega)
                  obtain ⟨wd, hwd⟩ : ∃ m : Nat, wideOf r.kind = m := ⟨(wideOf r.kind).toNat, by omega⟩
                  have hin : ra + wd ≤ x.f.bs.length := by omega
                  have hwd2 : wd ≤ 2 := by omega
                  obtain ⟨nv, hnv⟩ : ∃ m, (valueRes r.kind ((a : Int) + r.at_) tg r.add).1 = m := ⟨_, rfl⟩
                  have HV2 : Hid (valueRes r.kind ((a : Int) + r.at_) tg r.add = (nv, 0)) := by
                    show _ = _
                    have := HT2.out
                    rw [← hnv, ← this]
                  have HG2 : Hid (getRes fb r.at_ r.kind = (nv, 0)) := by
                    show _ = _
                    rw [HT3.out, hnv]
                  rw [hra] at s0 HV2 HG2
                  have HVA : Hid (∀ W, Calls Try.prog 58 #[.int .i64 r.kind, .int .i64 ((a : Int) + (ra : Int)), .int .i64 tg, .int .i64 r.add] W fun e w' => e = .returned (.tuple #[.int .i64 nv, .int .i64 0]) ∧ w' = W) := by
                    intro W
                    have := value_any r.kind ((a : Int) + (ra : Int)) tg r.add W (by omega) (by omega)
                    rw [HV2.out] at this
                    exact this.mono fun _ _ ⟨he, hw⟩ => ⟨he, hw.symm⟩
                  have HRA := Lib.hid hra
                  have HWD := Lib.hid hwd
                  have hbe : Below w9.heap.size w9 wc := hb9r
                  clear hww hr64 hra hwd hnv a0 a1 HT2 HT3
                  go_upto_region 30 with (fail)
                  go_quiet ((go_at_call 58; exact Calls.quiet_of_same (HVA.out _)))
                  obtain ⟨w13, hw13⟩ : ∃ W, W = wc.drewN nq := ⟨_, rfl⟩
                  replace kR : Blk w13 gR 119 #[.int .i64 r.at_, .int .i64 r.kind, .string r.name, .int .i64 r.frag, .int .i64 r.add] := by rw [hw13]; exact kR.drewN nq
                  replace kF : Blk w13 gF 4 (boolsV fs).toArray := by rw [hw13]; exact kF.drewN nq
                  replace hb9r : Below w9.heap.size w9 w13 := by rw [hw13]; exact below_drewN hb9r nq
                  rw [← hw13]
                  clear hw13 s0 s1 s4 c0 d1r hwr HVA hbe hbA
                  have s0 := kR.cell 0
                  have s1 := kR.cell 1
                  rw [HRA.out] at s0
                  have hrb13 := (hrb.below hb9r).more hb9r.size
                  have hge := get_any r.kind (ra : Int) Ab cb fb w13 (by rw [HFL.out]; exact hrb13) (by rw [HFL.out]; omega)
                  rw [HG2.out, HFL.out] at hge
                  have HGE := Lib.hid hge
                  clear hge hrb13
                  go_wp2_with fail
                  refine HGE.out.mono ?_
                  rintro e w' ⟨rfl, rfl⟩
                  have hwi := wide_any r.kind w13
                  rw [HWD.out] at hwi
                  have HWI := Lib.hid hwi
                  have q9 : (nv != nv) = false := by simp
                  clear hwi
                  go_wp2_with fail
                  refine HWI.out.mono ?_
                  rintro e w' ⟨rfl, rfl⟩
                  go_wp2_with fail
                  clear s0 s1 q9
                  go_loopw [190] (fun j wr => ∃ (m : Nat) (fs' : List Bool), m ≤ wd ∧ j = .int .i64 m ∧ Hid (MarkedTo (x.f.rs.take k) r m x.f.bs.length fs') ∧ Blk wr gF 4 (boolsV fs').toArray ∧ Blk wr gR 119 #[.int .i64 r.at_, .int .i64 r.kind, .string r.name, .int .i64 r.frag, .int .i64 r.add] ∧ Below w9.heap.size w9 wr) (fun j _ => wd - (intOf j).toNat)
                  case atStart => exact ⟨0, fs, Nat.zero_le _, rfl, Lib.hid (MarkedTo.zero hmk.out), kF, kR, hb9r⟩
                  case round =>
                    clear kF kR hb9r
                    obtain ⟨m, fs', hm, rfl, hmt, kF, kR, hb9r⟩ := hrel
                    by_cases hml : m < wd
                    · have s0 := kR.cell 0
                      rw [HRA.out] at s0
                      obtain ⟨tb, htb⟩ : ∃ b, fs'[ra + m]? = some b := ⟨_, List.getElem?_eq_getElem (by rw [hmt.out.1]; omega)⟩
                      have f0 := (kF.cell (ra + m)).trans (boolsB_get htb)
                      have f1 := kF.frozen (ra + m)
                      have HNX := Lib.hid (MarkedTo.next hmt.out HRA.out (by omega))
                      have hne := kR.ne_ kF (by decide)
                      have hwa : IntKind.i64.wrap ((ra : Int) + (m : Int)) = (ra : Int) + (m : Int) := IntWalk.i64_in _ (by omega)
                      have hwn : ((ra : Int) + (m : Int)).toNat = ra + m := by omega
                      have hw0 : 0 ≤ (ra : Int) + (m : Int) := by omega
                      clear htb
                      go_wp2_with fail
                      go_roundw
                      case rel => exact ⟨m + 1, fs'.set (ra + m) true, by omega, by go_num, HNX, by rw [← boolsB_set]; exact kF.set_ _ _, kR.far hne _, hb9r.setCell hgF9 _⟩
                      case measure => simp [intOf]; omega
                    · obtain rfl : m = wd := by omega
                      have HMA := Lib.hid (MarkedTo.all hmt.out HWD.out HHR.out)
                      go_wp2_with fail
                      go_roundw
                      case rel => exact ⟨k + 1, fs', by omega, by go_num, HMA, kF, hb9r⟩
                      case measure => simp [intOf]; omega
              · obtain rfl : k = x.f.rs.length := by omega
                have hma := hmk.out
                rw [List.take_length] at hma
                have HMA := Lib.hid hma
                have HBO := Lib.hid (hbr.trans (hb9r.mono hbr.size))
                have HB9 := Lib.hid hb9r
                have x3 := (kX.all hb9r).cell 3
                clear hma hmk hkl hk
                go_wp2_with fail
                clear x3
                go_loopw [204] (fun j wx => ∃ q : Nat, q ≤ x.f.bs.length ∧ j = .int .i64 q ∧ Below wr.heap.size wr wx) (fun j _ => x.f.bs.length - (intOf j).toNat)
                case atStart => exact ⟨0, Nat.zero_le _, rfl, Below.refl _ _⟩
                case round =>
                  clear hb9r
                  obtain ⟨q, hq, rfl, hbq⟩ := hrel
                  by_cases hql : q < x.f.bs.length
                  · have hbq9 := HB9.out.trans (hbq.mono HB9.out.size)
                    obtain ⟨u, hu⟩ : ∃ u, x.f.bs[q]? = some u := ⟨_, List.getElem?_eq_getElem hql⟩
                    obtain ⟨v, hv⟩ : ∃ v, fb[q]? = some v := ⟨_, List.getElem?_eq_getElem (by rw [HFL.out]; exact hql)⟩
                    obtain ⟨tb, htb⟩ : ∃ b, fs[q]? = some b := ⟨_, List.getElem?_eq_getElem (by rw [HMA.out.1]; exact hql)⟩
                    obtain ⟨bu, ou, u1, eu, zu, fu, du⟩ := (hxg.by_.below hbq9).at_ hql
                    rw [bytes_at hu] at fu
                    injection fu with fu
                    subst fu
                    obtain ⟨bv, ov, v1, ev, zv, fv, dv⟩ := (hrb.below hbq9).at_ hql
                    rw [bytes_at hv] at fv
                    injection fv with fv
                    subst fv
                    have f0 := ((kF.all hbq).cell q).trans (boolsB_get htb)
                    rw [eu, ev]
                    cases tb with
                    | true =>
                      clear hu hv htb eu ev
                      go_wp2_with fail
                      go_roundw
                      case rel => exact ⟨q + 1, by omega, by go_num, hbq⟩
                      case measure => simp [intOf]; omega
                    | false =>
                      have huv : v = u := by
                        have := HELS.out q (HMA.out.not hql htb)
                        rw [hu, hv] at this
                        injection this
                      subst huv
                      have q9 : (((v.toNat : Nat) : Int) != ((v.toNat : Nat) : Int)) = false := by simp
                      unfold byteV at du dv
                      clear hu hv htb eu ev
                      go_wp2_with fail
                      go_roundw
                      case rel => exact ⟨q + 1, by omega, by go_num, hbq⟩
                      case measure => simp [intOf]; omega
                  · obtain rfl : q = x.f.bs.length := by omega
                    go_wp2_with fail
                    go_roundw
                    case rel => exact ⟨i + 1, by omega, by go_num, HBO.out.trans (hbq.mono HBO.out.size)⟩
                    case measure => simp [intOf]; omega
        · obtain rfl : i = p.frs.length := by omega
          go_wp2_with fail
          go_ret
          exact ⟨rfl, hb.trans (hbr.mono hb.size)⟩
    · have q0 : decide ((0 : Int) < (fl.length : Int)) = true := decide_eq_true (by omega)
      have q1 : decide (0 < fl.length) = true := decide_eq_true hf
      clear hf hm HRR hE hc hnb hl0
      go_wp2_with fail
      refine (linked_any w3).mono ?_
      rintro e w4 ⟨rfl, hb4⟩
      go_wp2
      go_ret
      exact ⟨rfl, hb.trans (hb4.mono hb.size)⟩
  · have hx0 : (x != 0) = true := by simpa using hx
    clear hx hm HRR
    go_wp2_with fail
    refine (linked_any w3).mono ?_
    rintro e w4 ⟨rfl, hb4⟩
    go_wp2
    go_ret
    exact ⟨rfl, hb.trans (hb4.mono hb.size)⟩
end Go.Proofs.Ytbhjdinjoonngaa
