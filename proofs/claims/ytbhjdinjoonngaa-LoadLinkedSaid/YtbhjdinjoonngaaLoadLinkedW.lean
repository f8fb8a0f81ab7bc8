/- ropewalklaw.LoadLinked: the call returns true. -/
import Derived.Test.YtbhjdinjoonngaaLinkJ
import Derived.Test.YtbhjdinjoonngaaLinkMovedW
import Derived.Test.YtbhjdinjoonngaaLoaded
import Derived.StillTailTactics
import Derived.IntWalk
import Derived.Deep.RegionWith
import Derived.Deep.RegionHeld3
set_option linter.all false
namespace Go.Proofs.Ytbhjdinjoonngaa
open Go.RowKit

abbrev segsV (l : List Seg) : List Value := l.flatMap Seg.cells
theorem SegsAt.drew1 {w : World} {A : Option Addr} {segs : List Seg} (h : SegsAt w w.heap.size A segs) : SegsAt w.drew w.drew.heap.size A segs := ⟨h.row.drew, fun s hs => (h.each s hs).drew, h.small, h.smalls⟩
theorem linkEnd_any (x : Seg) (en : Int) (A : Option Addr) (c n gM : Nat) (w : World) (kM : Blk w gM 87 #[.int .i64 en, .slice A n c]) (h0 : 0 ≤ x.At) (h1 : x.At ≤ 65536) (h2 : x.Bytes.length ≤ 65536) (h3 : 0 ≤ x.Zeros) (h4 : x.Zeros ≤ 65536) :
    Calls Try.prog 48 #[.agg #[.int .i64 (x).At, .slice (x).ba (x).Bytes.length (x).bc, .int .i64 (x).Zeros, .bool (x).Writes, .bool (x).Works], .pointer (some ⟨gM, 0, none⟩)] w fun e w' => e = .returned (.bool ((en == x.At + x.Bytes.length + x.Zeros) || (en == x.At))) ∧ Below w.heap.size w w' := by
  have kX := kM.alloc (.cells #[.int .i64 (x).At, .slice (x).ba (x).Bytes.length (x).bc, .int .i64 (x).Zeros, .bool (x).Writes, .bool (x).Works] 106)
  have hne : w.heap.size ≠ gM := Nat.ne_of_gt kM.lt
  have c0 := kX.cell 0
  have m0 := kM.cell 0
  obtain ⟨b1, hb1⟩ : ∃ b, (en == x.At + x.Bytes.length + x.Zeros) = b := ⟨_, rfl⟩
  obtain ⟨b2, hb2⟩ : ∃ b, (en == x.At) = b := ⟨_, rfl⟩
  rw [hb1, hb2]
  have hw1 : IntKind.i64.wrap (x.At + (x.Bytes.length : Int)) = x.At + x.Bytes.length := IntWalk.i64_in _ (by omega)
  have hw2 : IntKind.i64.wrap (x.At + (x.Bytes.length : Int) + x.Zeros) = x.At + x.Bytes.length + x.Zeros := IntWalk.i64_in _ (by omega)
  clear kX kM
  go_enter Try.func48, Try.ntmps48
  cases b1 with
  | true =>
    go_wp2
    go_ret
    exact ⟨rfl, by (repeat' (first | exact Below.refl _ _ | assumption | refine Below.setCell ?_ (by first | omega | exact Below.size (by assumption) | (simp; done) | (simp; omega)) _ | refine Below.alloc ?_ (by first | omega | exact Below.size (by assumption) | (simp; done) | (simp; omega)) _ | refine Below.drew ?_ | refine below_drewN ?_ _))⟩
  | false =>
    cases b2 with
    | true =>
      go_wp2
      go_ret
      exact ⟨rfl, by (repeat' (first | exact Below.refl _ _ | assumption | refine Below.setCell ?_ (by first | omega | exact Below.size (by assumption) | (simp; done) | (simp; omega)) _ | refine Below.alloc ?_ (by first | omega | exact Below.size (by assumption) | (simp; done) | (simp; omega)) _ | refine Below.drew ?_ | refine below_drewN ?_ _))⟩
    | false =>
      go_wp2
      go_ret
      exact ⟨rfl, by (repeat' (first | exact Below.refl _ _ | assumption | refine Below.setCell ?_ (by first | omega | exact Below.size (by assumption) | (simp; done) | (simp; omega)) _ | refine Below.alloc ?_ (by first | omega | exact Below.size (by assumption) | (simp; done) | (simp; omega)) _ | refine Below.drew ?_ | refine below_drewN ?_ _))⟩

set_option maxHeartbeats 8000000 in
set_option maxRecDepth 100000 in
theorem idxFSg_any (A : Option Addr) (c : Nat) (l : List Seg) (pr : Seg → Bool) (gE : Nat) (w : World) (hR : Reads w w.heap.size 5 A l.length (segsV l)) (hlm : l.length ≤ 9223372036854775807)
    (HL : ∀ x ∈ l, ∀ W, Below w.heap.size w W → Calls Try.prog 48 #[.agg #[.int .i64 (x).At, .slice (x).ba (x).Bytes.length (x).bc, .int .i64 (x).Zeros, .bool (x).Writes, .bool (x).Works], .pointer (some ⟨gE, 0, none⟩)] W fun e w' => e = .returned (.bool (pr x)) ∧ Below W.heap.size W w') :
    Calls Try.prog 105 #[.slice A l.length c, .func (.func 48) #[] #[.pointer (some ⟨gE, 0, none⟩)]] w
      fun e w' => (∃ n : Int, e = .returned (.int .i64 n) ∧ decide (0 ≤ n) = l.any pr) ∧ Below w.heap.size w w' := by
  have HL := Lib.hid HL
  go_enter Try.func105, Try.ntmps105
  go_wp2_with fail
  go_loopw [8] (fun i wr => ∃ k : Nat, k ≤ l.length ∧ i = .int .i64 k ∧ Hid ((l.take k).any pr = false) ∧ Below w.heap.size w wr) (fun i _ => l.length - (intOf i).toNat)
  case atStart => exact ⟨0, Nat.zero_le _, rfl, Lib.hid (by simp), Below.refl _ _⟩
  case round =>
    obtain ⟨k, hk, rfl, hno, hb⟩ := hrel
    by_cases hlt : k < l.length
    · obtain ⟨x, hx⟩ : ∃ x, l[k]? = some x := ⟨_, List.getElem?_eq_getElem hlt⟩
      obtain ⟨b, off, rfl, bl, c0, c1, c2, c3, c4⟩ := sg_get (hR.below hb) hx
      have HCx := HL.out x (List.mem_of_getElem? hx) wr hb
      have HY : Hid ((l.take (k + 1)).any pr = pr x) := by show _ = _; rw [List.take_add_one, hx, List.any_append, hno.out]; simp
      have HM : Hid (pr x = true → l.any pr = true) := fun h => List.any_eq_true.2 ⟨x, List.mem_of_getElem? hx, h⟩
      obtain ⟨t, ht⟩ : ∃ t, pr x = t := ⟨_, rfl⟩
      rw [ht] at HCx HY HM
      replace HCx := Lib.hid HCx
      clear hx ht
      cases t with
      | true =>
        have HM2 := Lib.hid (HM.out rfl)
        clear HM
        go_wp2_with (go_at_call 48; refine HCx.out.mono ?_; rintro e w' ⟨rfl, hb2⟩)
        go_ret
        exact ⟨⟨k, rfl, by rw [HM2.out]; exact decide_eq_true (by omega)⟩, hb.trans (hb2.mono hb.size)⟩
      | false =>
        go_wp2_with (go_at_call 48; refine HCx.out.mono ?_; rintro e w' ⟨rfl, hb2⟩)
        go_roundw
        case rel => exact ⟨k + 1, by omega, by go_num, HY, hb.trans (hb2.mono hb.size)⟩
        case measure => simp [intOf]; omega
    · obtain rfl : k = l.length := by omega
      go_wp2
      go_ret
      exact ⟨⟨-1, rfl, by have := hno.out; rw [List.take_length] at this; rw [this]; rfl⟩, hb⟩
set_option maxHeartbeats 8000000 in
theorem hasFSg_any (A : Option Addr) (c : Nat) (l : List Seg) (pr : Seg → Bool) (gE : Nat) (w : World) (hR : Reads w w.heap.size 5 A l.length (segsV l)) (hlm : l.length ≤ 9223372036854775807)
    (HL : ∀ x ∈ l, ∀ W, Below w.heap.size w W → Calls Try.prog 48 #[.agg #[.int .i64 (x).At, .slice (x).ba (x).Bytes.length (x).bc, .int .i64 (x).Zeros, .bool (x).Writes, .bool (x).Works], .pointer (some ⟨gE, 0, none⟩)] W fun e w' => e = .returned (.bool (pr x)) ∧ Below W.heap.size W w') :
    Calls Try.prog 47 #[.slice A l.length c, .func (.func 48) #[] #[.pointer (some ⟨gE, 0, none⟩)]] w
      fun e w' => e = .returned (.bool (l.any pr)) ∧ Below w.heap.size w w' := by
  have HI := Lib.hid (idxFSg_any A c l pr gE w hR hlm HL)
  clear HL
  go_enter Try.func47, Try.ntmps47
  go_wp2_with fail
  refine HI.out.mono ?_
  rintro e w1 ⟨⟨n, rfl, hn⟩, hb⟩
  replace hn := Lib.hid hn
  go_wp2
  go_ret
  exact ⟨by rw [← hn.out]; rfl, hb⟩
theorem to_reads {w : World} {g : Nat} {t : TypeId} {v1 v2 v3 f1 f2 f3 f4 f5 : Value} {x1 x2 x3 x4 x5 : Int} (h : Blk w g t #[v1, v2, v3, .int .i64 0, f1, f2, f3, f4, f5, .int .i64 0, .int .i64 x1, .int .i64 x2, .int .i64 x3, .int .i64 x4, .int .i64 x5]) : Reads w w.heap.size 1 (some ⟨g, 9, none⟩) 6 (intsV [0, x1, x2, x3, x4, x5]) := by
  refine ⟨rfl, fun _ => ⟨g, 9, rfl, h.lt, fun j u hu => ?_⟩⟩
  rw [h.cell]
  match j, hu with
  | 0, hu => exact hu
  | 1, hu => exact hu
  | 2, hu => exact hu
  | 3, hu => exact hu
  | 4, hu => exact hu
  | 5, hu => exact hu
  | j + 6, hu => simp [intsV] at hu
/-- What is told of a linked image's bytes. -/
structure ImgBy (p : Prt) (n : Nat) (entry : ByteArray) (en : Int) (S : List Seg) : Prop where
  ok : ckImg en S = 0
  by_ : ∀ i f k, p.frs[i]? = some f → k < f.ln → ∃ j sg, lookAt S ((adrOf p.frs n i + k : Nat) : Int) 0 = some (j, sg) ∧ sg.Writes = decide (4 ≤ f.sect) ∧ sg.Works = decide (f.sect = 1) ∧ (f.sect = 5 → sg.byte ((adrOf p.frs n i + k : Nat) : Int) = 0)
  ent : (lookAt S en 0).isSome = true ∨ ∃ t, 1 ≤ t ∧ t ≤ 5 ∧ en = (toN p n t : Nat)
  b0 : 0 ≤ en
  b1 : en ≤ 65536
theorem imgBy_of {p : Prt} {n : Nat} {entry : ByteArray} {en : Int} {s1 s2 s3 : Seg} (h : layE p n = 0) (hw : (whereA p n entry).2 = 0) (he : en = (whereA p n entry).1) (h1 : s1.er = (segP p n 1 1 [1]).seg) (h2 : s2.er = (segP p n 2 3 [2, 3]).seg) (h3 : s3.er = (segP p n 4 5 [4, 5]).seg) : ImgBy p n entry en [s1, s2, s3] := by
  have hwb := where_bounds h hw
  rw [← he] at hwb
  refine ⟨(img3_of h h1 h2 h3).ok hwb.1 hwb.2, fun i f k hf hk => ?_, ?_, hwb.1, hwb.2⟩
  · obtain ⟨j, e1, e2, _⟩ := byte_of h h1 h2 h3 hf hk
    obtain ⟨hc, _⟩ := layE_zero h
    have hs := (lays_of hc).sect f (List.mem_of_getElem? hf)
    obtain ⟨m1, m2⟩ := segOf_marks h1 h2 h3 hs.1 hs.2
    exact ⟨j, _, e1, m1, m2, e2⟩
  · have := entry_at h h1 h2 h3 hw
    rw [← he] at this
    exact this

set_option maxRecDepth 100000 in
set_option maxHeartbeats 20000000 in
theorem loadLinked_any (p : PtM) (base : Int) (entry : ByteArray) (w : World) (h : p.At w w.heap.size) :
    Calls Try.prog 9 #[.agg #[.slice p.fa p.frs.length p.fc, .slice p.da p.dfs.length p.dc], .int .i64 base, .string entry] w fun e w' => e = .returned (.bool true) ∧ Below w.heap.size w w' := by
  have kP := Blk.new w 44 #[.slice p.fa p.frs.length p.fc, .slice p.da p.dfs.length p.dc]
  have hb : Below w.heap.size w (w.alloc (.cells #[.slice (p).fa (p).frs.length (p).fc, .slice (p).da (p).dfs.length (p).dc] 44)) := by (repeat' (first | exact Below.refl _ _ | assumption | refine Below.setCell ?_ (by first | omega | exact Below.size (by assumption) | (simp; done) | (simp; omega)) _ | refine Below.alloc ?_ (by first | omega | exact Below.size (by assumption) | (simp; done) | (simp; omega)) _ | refine Below.drew ?_ | refine below_drewN ?_ _))
  have h1 := h.all hb
  clear h
  go_enter Try.func9, Try.ntmps9
  go_wp2_with fail
  obtain ⟨gP, hgP⟩ : ∃ g, g = w.heap.size := ⟨_, rfl⟩
  obtain ⟨W, hW⟩ : ∃ W, W = w.alloc (.cells #[.slice (p).fa (p).frs.length (p).fc, .slice (p).da (p).dfs.length (p).dc] 44) := ⟨_, rfl⟩
  rw [show Blk (w.alloc (.cells #[.slice (p).fa (p).frs.length (p).fc, .slice (p).da (p).dfs.length (p).dc] 44)) w.heap.size = Blk W gP by rw [hW, hgP]] at kP
  rw [← hgP]
  rw [← hW] at hb h1 ⊢
  clear hW hgP
  refine (link_any p base entry W h1).mono ?_
  rintro e w1 ⟨A, c, segs, Au, cu, rfl, hm, hsa, hfl, _, hb1⟩
  have kP := kP.all hb1
  have h1 := h1.all hb1
  have hb := hb.trans (hb1.mono hb.size)
  clear hb1 hfl
  obtain ⟨⟨⟨en, sg⟩, fl, x⟩, hr⟩ : ∃ t, linkP p.er base entry = t := ⟨_, rfl⟩
  rw [hr] at hm ⊢
  dsimp only at hm ⊢
  have HRR := Lib.hid hr
  clear hr
  go_upto_region 2 with (fail)
  have kM := Blk.new w1 87 #[.int .i64 en, .slice A segs.length c]
  have hbx : Below w1.heap.size w1 (w1.alloc (.cells #[.int .i64 en, .slice A segs.length c] 87)) := by (repeat' (first | exact Below.refl _ _ | assumption | refine Below.setCell ?_ (by first | omega | exact Below.size (by assumption) | (simp; done) | (simp; omega)) _ | refine Below.alloc ?_ (by first | omega | exact Below.size (by assumption) | (simp; done) | (simp; omega)) _ | refine Below.drew ?_ | refine below_drewN ?_ _))
  obtain ⟨gM, hgM⟩ : ∃ g, g = w1.heap.size := ⟨_, rfl⟩
  obtain ⟨W2, hW2⟩ : ∃ W, W = w1.alloc (.cells #[.int .i64 en, .slice A segs.length c] 87) := ⟨_, rfl⟩
  replace hsa := hsa.below hbx
  replace kP := kP.all hbx
  replace h1 := h1.all hbx
  replace hb := hb.trans (hbx.mono hb.size)
  rw [← hgM] at kM ⊢
  rw [← hW2] at kM hsa kP h1 hb ⊢
  clear hW2 hgM hbx
  go_wp2_with fail
  refine (loaded_any W2).mono ?_
  rintro e w3 ⟨rfl, hb3⟩
  replace kM := kM.all hb3
  replace hsa := hsa.below hb3
  replace kP := kP.all hb3
  replace h1 := h1.all hb3
  replace hb := hb.trans (hb3.mono hb.size)
  clear hb3
  by_cases hx : x = 0
  · subst hx
    have hE : linkE p.er base entry = 0 := linkP_zero (by rw [HRR.out])
    obtain ⟨hc, hnb, hl0⟩ := linkE_zero hE
    obtain ⟨_, hn0, hn1, _⟩ := layE_zero hl0
    obtain ⟨n, rfl⟩ : ∃ n : Nat, base = n := ⟨base.toNat, by omega⟩
    rcases Nat.eq_zero_or_pos fl.length with hf | hf
    · have hf0 := List.eq_nil_of_length_eq_zero hf
      subst hf0
      have q0 : decide ((0 : Int) < (([] : List Flx).length : Int)) = false := rfl
      have hflx : linkFl p.er n entry = [] := by rw [← linkP_fl hE, HRR.out]
      have hok := linkP_ok hE hflx
      rw [HRR.out] at hok
      have hen : en = (whereA p.er n entry).1 := by injection hok with h1 _; injection h1
      have hsg : sg = [segP p.er n 1 1 [1], segP p.er n 2 3 [2, 3], segP p.er n 4 5 [4, 5]] := by injection hok with h1 _; injection h1
      have hwh := entry_clean hc hflx
      rw [hsg] at hm
      obtain ⟨s1, s2, s3, rfl, he1, he2, he3⟩ := segs3 hm
      have HI := imgBy_of hl0 hwh hen he1 he2 he3
      obtain ⟨S, hS⟩ : ∃ S, S = [s1, s2, s3] := ⟨_, rfl⟩
      rw [← hS] at hsa kM HI
      have ib0 := HI.b0
      have ib1 := HI.b1
      replace HI := Lib.hid HI
      have hf60 := (small_of hc).fr
      have HL0 := Lib.hid hl0
      have HC := Lib.hid hc
      have HN := Lib.hid (And.intro hn0 hn1)
      have p0 := kP.cell 0
      have p1 := kP.cell 1
      clear hok hen hsg hwh hm he1 he2 he3 hl0 hc hE hnb hflx hf HRR hn0 hn1 hS
      go_wp2_with fail
      refine (lay_any p (n : Int) w3 h1).mono ?_
      rintro e w4 ⟨l, rfl, hr, hl, hb4⟩
      have hlc := lay_cells hr HL0.out
      rw [HL0.out, hlc]
      have hr2 := hr.trans (layR_zero HL0.out)
      obtain ⟨hlf, _, _⟩ := hl
      rw [hr2] at hlf
      dsimp only at hlf
      rw [show (layFr p.er n).length = p.frs.length by unfold layFr; simp [PtM.er]] at hlf
      replace kP := kP.all hb4
      replace kM := kM.all hb4
      replace hsa := hsa.below hb4
      replace h1 := h1.all hb4
      replace hb := hb.trans (hb4.mono hb.size)
      clear hb4 hr hr2 hlc p0 p1 q0
      go_upto_region 5 with (fail)
      have kL := Blk.new w4 93 #[(.slice l.fa p.frs.length l.fc), (.slice l.na (layEnd p.er n).ns.length l.nc), (.slice l.ca (layEnd p.er n).cs.length l.cc), (.int .i64 0), (.int .i64 (secFrom p.er.frs n 1 : Nat)), (.int .i64 (secFrom p.er.frs n 2 : Nat)), (.int .i64 (secFrom p.er.frs n 3 : Nat)), (.int .i64 (secFrom p.er.frs n 4 : Nat)), (.int .i64 (secFrom p.er.frs n 5 : Nat)), (.int .i64 0), (.int .i64 (toN p.er n 1 : Nat)), (.int .i64 (toN p.er n 2 : Nat)), (.int .i64 (toN p.er n 3 : Nat)), (.int .i64 (toN p.er n 4 : Nat)), (.int .i64 (toN p.er n 5 : Nat))]
      have hbx : Below w4.heap.size w4 (w4.alloc (.cells #[(.slice l.fa p.frs.length l.fc), (.slice l.na (layEnd p.er n).ns.length l.nc), (.slice l.ca (layEnd p.er n).cs.length l.cc), (.int .i64 0), (.int .i64 (secFrom p.er.frs n 1 : Nat)), (.int .i64 (secFrom p.er.frs n 2 : Nat)), (.int .i64 (secFrom p.er.frs n 3 : Nat)), (.int .i64 (secFrom p.er.frs n 4 : Nat)), (.int .i64 (secFrom p.er.frs n 5 : Nat)), (.int .i64 0), (.int .i64 (toN p.er n 1 : Nat)), (.int .i64 (toN p.er n 2 : Nat)), (.int .i64 (toN p.er n 3 : Nat)), (.int .i64 (toN p.er n 4 : Nat)), (.int .i64 (toN p.er n 5 : Nat))] 93)) := by (repeat' (first | exact Below.refl _ _ | assumption | refine Below.setCell ?_ (by first | omega | exact Below.size (by assumption) | (simp; done) | (simp; omega)) _ | refine Below.alloc ?_ (by first | omega | exact Below.size (by assumption) | (simp; done) | (simp; omega)) _ | refine Below.drew ?_ | refine below_drewN ?_ _))
      replace kP := kP.all hbx
      replace kM := kM.all hbx
      replace hsa := hsa.below hbx
      replace hlf := (hlf.below hbx).more hbx.size
      replace h1 := h1.all hbx
      replace hb := hb.trans (hbx.mono hb.size)
      obtain ⟨gL, hgL⟩ : ∃ g, g = w4.heap.size := ⟨_, rfl⟩
      obtain ⟨W5, hW5⟩ : ∃ W', W' = w4.alloc (.cells #[(.slice l.fa p.frs.length l.fc), (.slice l.na (layEnd p.er n).ns.length l.nc), (.slice l.ca (layEnd p.er n).cs.length l.cc), (.int .i64 0), (.int .i64 (secFrom p.er.frs n 1 : Nat)), (.int .i64 (secFrom p.er.frs n 2 : Nat)), (.int .i64 (secFrom p.er.frs n 3 : Nat)), (.int .i64 (secFrom p.er.frs n 4 : Nat)), (.int .i64 (secFrom p.er.frs n 5 : Nat)), (.int .i64 0), (.int .i64 (toN p.er n 1 : Nat)), (.int .i64 (toN p.er n 2 : Nat)), (.int .i64 (toN p.er n 3 : Nat)), (.int .i64 (toN p.er n 4 : Nat)), (.int .i64 (toN p.er n 5 : Nat))] 93) := ⟨_, rfl⟩
      rw [← hgL] at kL ⊢
      rw [← hW5] at kL kP kM hsa hlf h1 hb ⊢
      clear hW5 hgL hbx
      have m0 := kM.cell 0
      have m1 := kM.cell 1
      go_wp2_with fail
      refine (loadCheck_any en A c S W5 hsa).mono ?_
      rintro e w6 ⟨rfl, hb6⟩
      rw [HI.out.ok]
      replace kP := kP.all hb6
      replace kM := kM.all hb6
      replace kL := kL.all hb6
      replace hsa := hsa.below hb6
      replace hlf := (hlf.below hb6).more hb6.size
      replace h1 := h1.all hb6
      replace hb := hb.trans (hb6.mono hb.size)
      clear hb6 m0 m1
      have x0 := kL.cell 0
      have p0 := kP.cell 0
      go_wp2_with fail
      clear x0 p0
      go_loopw [68] (fun i wr => ∃ k : Nat, k ≤ p.frs.length ∧ i = .int .i64 k ∧ Below w6.heap.size w6 wr) (fun i _ => p.frs.length - (intOf i).toNat)
      case atStart => exact ⟨0, Nat.zero_le _, rfl, Below.refl _ _⟩
      case round =>
        obtain ⟨i, hi, rfl, hbr⟩ := hrel
        by_cases hlt : i < p.frs.length
        · obtain ⟨x, hx⟩ : ∃ x, p.frs[i]? = some x := ⟨_, List.getElem?_eq_getElem hlt⟩
          have hxe : p.er.frs[i]? = some x.f := by simp [PtM.er, hx]
          have hAr := h1.keep hbr hbr.size
          obtain ⟨b, off, hfa, bl, c0, c1, c2, c3, c4, c5⟩ := fg_get hAr.fr hx
          have hlfr := (hlf.below hbr).more hbr.size
          obtain ⟨b1, o1, u1, e1, z1, f1, d1⟩ := hlfr.at_ hlt
          have E1 := Lib.hid e1
          clear e1
          rw [natsV_at (show (layFr p.er n)[i]? = some (adrOf p.er.frs n i) by unfold layFr; rw [List.getElem?_map, List.getElem?_range (List.getElem?_eq_some_iff.1 hxe).1]; rfl)] at f1
          injection f1 with f1
          subst f1
          have hmem := List.mem_of_getElem? hxe
          have hsx := (lays_of HC.out).sect x.f hmem
          obtain ⟨l64, leq⟩ := (lays_of HC.out).ln0 hmem
          obtain ⟨ln, hln'⟩ : ∃ a, a = x.f.ln := ⟨_, rfl⟩
          have had := (adr_le HL0.out hxe)
          obtain ⟨a, hav⟩ : ∃ a, a = adrOf p.er.frs n i := ⟨_, rfl⟩
          have ha6 : a + ln ≤ 65536 := by omega
          have HBY : Hid (∀ k, k < ln → ∃ j sg, lookAt S ((a + k : Nat) : Int) 0 = some (j, sg) ∧ sg.Writes = decide (4 ≤ x.f.sect) ∧ sg.Works = decide (x.f.sect = 1) ∧ (x.f.sect = 5 → sg.byte ((a + k : Nat) : Int) = 0)) := fun k hk => by
            rw [hav]
            exact HI.out.by_ i x.f k hxe (by omega)
          have HLN : Hid (x.f.long = (ln : Int)) := by show _ = _; rw [← leq, hln']
          rw [← hav] at d1
          rw [hfa]
          clear hx hxe hmem hsx l64 leq hln' had hav hAr hfa
          go_upto_region 10 with (fail)
          have kX := Blk.new wr 100 #[.int .i64 x.f.sect, .int .i64 x.f.align, .string x.f.group, .slice x.ba x.f.bs.length x.bc, .int .i64 x.f.size, .slice x.ra x.f.rs.length x.rc]
          have hbx : Below wr.heap.size wr (wr.alloc (.cells #[.int .i64 x.f.sect, .int .i64 x.f.align, .string x.f.group, .slice x.ba x.f.bs.length x.bc, .int .i64 x.f.size, .slice x.ra x.f.rs.length x.rc] 100)) := by (repeat' (first | exact Below.refl _ _ | assumption | refine Below.setCell ?_ (by first | omega | exact Below.size (by assumption) | (simp; done) | (simp; omega)) _ | refine Below.alloc ?_ (by first | omega | exact Below.size (by assumption) | (simp; done) | (simp; omega)) _ | refine Below.drew ?_ | refine below_drewN ?_ _))
          replace hlfr := (hlfr.below hbx).more hbx.size
          have kLr := (kL.all hbr).all hbx
          have kMr := (kM.all hbr).all hbx
          have hsr := (hsa.below hbr).below hbx
          replace d1 := (hbx.cell (p := ⟨b1, o1 + i, none⟩) (Nat.lt_of_lt_of_le z1 (Nat.le_refl _))).trans d1
          replace hbr := hbr.trans (hbx.mono hbr.size)
          obtain ⟨gX, hgX⟩ : ∃ g, g = wr.heap.size := ⟨_, rfl⟩
          obtain ⟨W7, hW7⟩ : ∃ W, W = wr.alloc (.cells #[.int .i64 x.f.sect, .int .i64 x.f.align, .string x.f.group, .slice x.ba x.f.bs.length x.bc, .int .i64 x.f.size, .slice x.ra x.f.rs.length x.rc] 100) := ⟨_, rfl⟩
          rw [← hgX] at kX ⊢
          rw [← hW7] at kX hbr kLr kMr hsr d1 hlfr ⊢
          have zb1 : b1 < W7.heap.size := by rw [hW7]; simp; omega
          clear hgX hW7 hbx c0 c1 c2 c3 c4 c5 z1
          have x0 := kX.cell 0
          have x1 := kX.cell 1
          have x2 := kX.cell 2
          have x3 := kX.cell 3
          have x4 := kX.cell 4
          have x5 := kX.cell 5
          go_wp2_with fail
          refine (long_any x W7).mono ?_
          rintro e w8 ⟨rfl, hb8⟩
          rw [HLN.out]
          replace kX := kX.all hb8
          replace kLr := kLr.all hb8
          replace kMr := kMr.all hb8
          replace hsr := hsr.below hb8
          replace d1 := (hb8.cell (p := ⟨b1, o1 + i, none⟩) zb1).trans d1
          replace zb1 := Nat.lt_of_lt_of_le zb1 hb8.size
          replace hbr := hbr.trans (hb8.mono hbr.size)
          have HBR := Lib.hid hbr
          clear hb8 x0 x1 x2 x3 x4 x5 hlfr hbr
          have x0L := kLr.cell 0
          rw [E1.out] at x0L
          have x0 := kX.cell 0
          go_wp2_with fail
          clear x0L x0
          go_loopw [75] (fun j wx => ∃ k : Nat, k ≤ ln ∧ j = .int .i64 k ∧ Below w8.heap.size w8 wx) (fun j _ => ln - (intOf j).toNat)
          case atStart => exact ⟨0, Nat.zero_le _, rfl, Below.refl _ _⟩
          case round =>
            obtain ⟨k, hk, rfl, hbr⟩ := hrel
            by_cases hkl : k < ln
            · obtain ⟨j, sg, g1, g2, g3, g4⟩ := HBY.out k hkl
              have x0 := (kX.all hbr).cell 0
              have m0 := (kMr.all hbr).cell 0
              have m1 := (kMr.all hbr).cell 1
              have y0 := (kLr.all hbr).cell 0
              rw [E1.out] at y0
              have d1r := (hbr.cell (p := ⟨b1, o1 + i, none⟩) zb1).trans d1
              have hsx := hsr.below hbr
              have hwa : IntKind.i64.wrap ((a : Int) + (k : Int)) = (a : Int) + (k : Int) := IntWalk.i64_in _ (by omega)
              have HB := byte_hit (entry := en) (c := c) hsx.drew1 (a := (a : Int) + (k : Int)) (by omega) (by omega) HI.out.ok g1
              rw [g2, g3] at HB
              replace HB := Lib.hid HB
              have HG4 := Lib.hid g4
              clear g1 g2 g3 g4
              go_upto_region 13 with (fail)
              have zM := (kMr.all hbr).lt
              have zL := (kLr.all hbr).lt
              have zbr := Nat.lt_of_lt_of_le zb1 hbr.size
              go_region_held3 (fun w' => w'.cell? ⟨gM, 0, none⟩ = some (.int .i64 en) ∧ w'.cell? ⟨gM, 1, none⟩ = some (.slice A S.length c) ∧ w'.cell? ⟨gL, 0, none⟩ = some (.slice (some ⟨b1, o1, none⟩) p.frs.length l.fc) ∧ w'.cell? ⟨b1, o1 + i, none⟩ = some (.int .i64 (a : Nat)))
                (first | go_keep | exact ⟨(hb9.cell (p := ⟨gM, 0, none⟩) zM).trans m0, (hb9.cell (p := ⟨gM, 1, none⟩) zM).trans m1, (hb9.cell (p := ⟨gL, 0, none⟩) zL).trans y0, (hb9.cell (p := ⟨b1, o1 + i, none⟩) zbr).trans d1r⟩)
                (first | (go_at_call 46; (with_reducible refine HB.out.mono ?_); rintro e w9 ⟨rfl, hb9⟩))
              have hbr2 := hbr.drew.trans (hb9.mono hbr.size)
              have x0 := (kX.all hbr2).cell 0
              clear m0 m1 y0 d1r hwa HB
              obtain ⟨bw, hbw⟩ : ∃ b, decide (4 ≤ x.f.sect) = b := ⟨_, rfl⟩
              have q3 : (bw != bw) = false := by cases bw <;> rfl
              obtain ⟨bk, hbk⟩ : ∃ b, (x.f.sect == 1) = b := ⟨_, rfl⟩
              have hbk2 : decide (x.f.sect = 1) = bk := by rw [← hbk]; rfl
              have q4 : (bk != bk) = false := by cases bk <;> rfl
              rw [hbw, hbk2]
              by_cases h5 : x.f.sect = 5
              · have q5 : (x.f.sect == 5) = true := by simpa using h5
                have h0 : sg.byte ((a : Int) + (k : Int)) = 0 := HG4.out h5
                rw [h0]
                clear h5 h0 HG4 hbk2
                go_wp2_with fail
                go_roundw
                case rel => exact ⟨k + 1, by omega, by go_num, hbr2⟩
                case measure => simp [intOf]; omega
              · have q5 : (x.f.sect == 5) = false := by simpa using h5
                clear h5 HG4 hbk2
                go_wp2_with fail
                go_roundw
                case rel => exact ⟨k + 1, by omega, by go_num, hbr2⟩
                case measure => simp [intOf]; omega
            · obtain rfl : k = ln := by omega
              go_wp2_with fail
              go_roundw
              case rel => exact ⟨i + 1, by omega, by go_num, HBR.out.trans (hbr.mono HBR.out.size)⟩
              case measure => simp [intOf]; omega
        · obtain rfl : i = p.frs.length := by omega
          have kMr := kM.all hbr
          have kLr := kL.all hbr
          have hsr := hsa.below hbr
          have m0 := kMr.cell 0
          have m1 := kMr.cell 1
          have HBE := Lib.hid (byte_good (entry := en) (a := en) (c := c) hsr (by omega) (by omega) HI.out.ok)
          go_wp2_with fail
          refine HBE.out.mono ?_
          rintro e w7 ⟨rfl, hb7⟩
          have hbr7 := hbr.trans (hb7.mono hbr.size)
          have HBR := Lib.hid (hb.trans (hbr7.mono hb.size))
          clear m0 m1 HBE hbr kMr kLr hsr hb7
          have kMr := kM.all hbr7
          have kLr := kL.all hbr7
          have hsr := hsa.below hbr7
          have m0 := kMr.cell 0
          have m1 := kMr.cell 1
          obtain ⟨ts, hts⟩ : ∃ t, (lookAt S en 0).isSome = t := ⟨_, rfl⟩
          have HE := Lib.hid HI.out.ent
          rw [hts] at HE ⊢
          generalize (byteOf en (lookAt S en 0)) = ub
          generalize (wrOf (lookAt S en 0)) = uw
          generalize (wkOf (lookAt S en 0)) = uk
          clear hts
          rcases ts with _ | _
          · have hex : ∃ t, 1 ≤ t ∧ t ≤ 5 ∧ en = (toN p.er n t : Nat) := by
              rcases HE.out with h | h
              · cases h
              · exact h
            have HFI := Lib.hid (hasFSg_any A c S (fun x => (en == x.At + x.Bytes.length + x.Zeros) || (en == x.At)) gM w7.drew hsr.row.drew hsr.small (fun x hx W hW => by
              obtain ⟨f0, f1, f2, f3, f4⟩ := (ckImg_fine HI.out.ok).1 x hx
              exact linkEnd_any x en A c S.length gM W (kMr.drew.all hW) (by omega) (by omega) (by omega) (by omega) (by omega)))
            obtain ⟨tb, htb⟩ : ∃ t, (S.any fun x => (en == x.At + x.Bytes.length + x.Zeros) || (en == x.At)) = t := ⟨_, rfl⟩
            rw [htb] at HFI
            clear htb
            have hin : en ∈ [(0 : Int), (toN p.er n 1 : Nat), (toN p.er n 2 : Nat), (toN p.er n 3 : Nat), (toN p.er n 4 : Nat), (toN p.er n 5 : Nat)] := by
              obtain ⟨t, t1, t5, rfl⟩ := hex
              match t, t1, t5 with
              | 1, _, _ => simp
              | 2, _, _ => simp
              | 3, _, _ => simp
              | 4, _, _ => simp
              | 5, _, _ => simp
            have HIN := Lib.hid hin
            have zM := kMr.lt
            have zL := kLr.lt
            have HCI : Hid (∀ W, Below w7.heap.size w7 W → Calls Try.prog 49 #[.slice (some ⟨gL, 9, none⟩) 6 6, .int .i64 en] W fun e w' => e = .returned (.bool true) ∧ W = w') := fun W hW => by
              have := containsInt_any (some ⟨gL, 9, none⟩) 6 [(0 : Int), (toN p.er n 1 : Nat), (toN p.er n 2 : Nat), (toN p.er n 3 : Nat), (toN p.er n 4 : Nat), (toN p.er n 5 : Nat)] en W (to_reads (kLr.all hW)) (by simp)
              rw [decide_eq_true HIN.out] at this
              exact this
            clear hex hin HE hsr kMr kLr
            rcases tb with _ | _
            · go_upto_region 21 with (fail)
              go_region_held3 (fun w' => w'.cell? ⟨gM, 0, none⟩ = some (.int .i64 en) ∧ w'.cell? ⟨gM, 1, none⟩ = some (.slice A S.length c))
                (first | go_keep | exact ⟨(hb9.cell (p := ⟨gM, 0, none⟩) zM).trans m0, (hb9.cell (p := ⟨gM, 1, none⟩) zM).trans m1⟩)
                (first
                  | (go_at_call 47; (with_reducible refine HFI.out.mono ?_); rintro e w9 ⟨rfl, hb9⟩; have hb99 : Below w7.heap.size w7 w9 := (Below.refl w7.heap.size w7).drew.trans hb9)
                  | (go_at_call 49; (with_reducible refine (HCI.out _ hb99).mono ?_); rintro e w' ⟨rfl, rfl⟩))
              go_wp2
              go_ret
              exact ⟨rfl, HBR.out.drew.trans (hb9.mono HBR.out.size)⟩
            · go_upto_region 21 with (fail)
              have zM2 : gM < w7.drew.heap.size := zM
              refine wp_region_held_drew (S := (fun w' => w'.cell? ⟨gM, 0, none⟩ = some (.int .i64 en) ∧ w'.cell? ⟨gM, 1, none⟩ = some (.slice A S.length c))) (by kernel_rfl) ?_ (fun hHeld => ?_)
              focus ((try dsimp only); go_keep)
              (refine wpAnyH_take (i := 0) (oi := { dst := some 136, op := Op.move (Operand.tmp 20), type := 4, pos := "law8.go:232", after := #[], guard := none }) (v := ?_) rfl (by kernel_rfl) (by kernel_rfl) (by kernel_rfl) (fun _ _ _ h => h) (Or.inl ⟨by rfl, ?_⟩) (by assumption) ?_; rotate_left; (focus (intro w hSw; (try dsimp only at hSw); go_simp; (try with_reducible rfl))); (try simp only [Act.put, List.setIfInBounds_toArray, List.set_cons_zero, List.set_cons_succ]))
              (refine wpAnyH_take (i := 1) (oi := { dst := some 137, op := Op.move (Operand.tmp 136), type := 4, pos := "law8.go:232", after := #[{ on := 0, ground := Ground.data }], guard := none }) (v := ?_) rfl (by kernel_rfl) (by kernel_rfl) (by kernel_rfl) (fun _ _ _ h => h) (Or.inl ⟨by rfl, ?_⟩) (by assumption) ?_; rotate_left; (focus (intro w hSw; (try dsimp only at hSw); go_simp; (try with_reducible rfl))); (try simp only [Act.put, List.setIfInBounds_toArray, List.set_cons_zero, List.set_cons_succ]))
              (refine wpAnyH_take (i := 2) (oi := { dst := some 138, op := Op.fieldAddr 87 (Operand.tmp 7) 1, type := 0, pos := "law8.go:232", after := #[{ on := 1, ground := Ground.guard }], guard := some (1, false) }) (v := ?_) rfl (by kernel_rfl) (by kernel_rfl) (by kernel_rfl) (fun _ _ _ h => h) (Or.inl ⟨by rfl, ?_⟩) (by assumption) ?_; rotate_left; (focus (intro w hSw; (try dsimp only at hSw); go_simp; (try with_reducible rfl))); (try simp only [Act.put, List.setIfInBounds_toArray, List.set_cons_zero, List.set_cons_succ]))
              (refine wpAnyH_take (i := 3) (oi := { dst := some 139, op := Op.load 85 (Operand.tmp 138), type := 85, pos := "law8.go:232", after := #[{ on := 2, ground := Ground.data }, { on := 1, ground := Ground.guard }], guard := some (1, false) }) (v := ?_) rfl (by kernel_rfl) (by kernel_rfl) (by kernel_rfl) (fun _ _ _ h => h) (Or.inl ⟨by rfl, ?_⟩) (by assumption) ?_; rotate_left; (focus (intro w hSw; (try dsimp only at hSw); go_simp; (try with_reducible rfl))); (try simp only [Act.put, List.setIfInBounds_toArray, List.set_cons_zero, List.set_cons_succ]))
              (refine wpAnyH_take (i := 4) (oi := { dst := some 140, op := Op.makeFunc (Fn.func 48) #[] #[Operand.tmp 7], type := 107, pos := "law8.go:232", after := #[{ on := 1, ground := Ground.guard }], guard := some (1, false) }) (v := ?_) rfl (by kernel_rfl) (by kernel_rfl) (by kernel_rfl) (fun _ _ _ h => h) (Or.inl ⟨by rfl, ?_⟩) (by assumption) ?_; rotate_left; (focus (intro w hSw; (try dsimp only at hSw); go_simp; (try with_reducible rfl))); (try simp only [Act.put, List.setIfInBounds_toArray, List.set_cons_zero, List.set_cons_succ]))
              (refine wpAnyH_ready (rs := [5]) (by kernel_rfl) (by simp) ?_; refine AllReadyH.cons (o := { dst := some 141, op := Op.call { callee := Callee.value (Operand.func 47), args := #[Operand.tmp 139, Operand.tmp 140], argTypes := #[85, 107] }, type := 4, pos := "law8.go:232", after := #[{ on := 3, ground := Ground.data }, { on := 4, ground := Ground.data }, { on := 1, ground := Ground.chain }, { on := 1, ground := Ground.guard }], guard := some (1, false) }) rfl (fun K hK => ?_) AllReadyH.nil; (try go_simp); (refine HFI.out.mono ?_; rintro e w9 ⟨rfl, hb9⟩; obtain ⟨hcc, hff⟩ := bcell hb9); go_wp2_with fail; refine hK.out _ _ ?_ (fun hHeld => ?_); (focus ((try dsimp only); exact ⟨(hb9.cell (p := ⟨gM, 0, none⟩) zM).trans m0, (hb9.cell (p := ⟨gM, 1, none⟩) zM).trans m1⟩)); clear hK K; (try simp only [Act.put, List.setIfInBounds_toArray, List.set_cons_zero, List.set_cons_succ]))
              (refine wpAnyH_take (i := 6) (oi := { dst := some 142, op := Op.pick (Operand.tmp 137) (Operand.const (Value.bool true)) (Operand.tmp 141), type := 4, pos := "law8.go:232", after := #[{ on := 1, ground := Ground.data }, { on := 5, ground := Ground.data }], guard := none }) (v := ?_) rfl (by kernel_rfl) (by kernel_rfl) (by kernel_rfl) (fun _ _ _ h => h) (Or.inl ⟨by rfl, ?_⟩) (by assumption) ?_; rotate_left; (focus (intro w hSw; (try dsimp only at hSw); go_simp; (try with_reducible rfl))); (try simp only [Act.put, List.setIfInBounds_toArray, List.set_cons_zero, List.set_cons_succ]))
              (refine wpAnyH_take (i := 7) (oi := { dst := some 143, op := Op.move (Operand.tmp 142), type := 4, pos := "law8.go:232", after := #[{ on := 6, ground := Ground.data }, { on := 5, ground := Ground.chain }], guard := none }) (v := ?_) rfl (by kernel_rfl) (by kernel_rfl) (by kernel_rfl) (fun _ _ _ h => h) (Or.inl ⟨by rfl, ?_⟩) (by assumption) ?_; rotate_left; (focus (intro w hSw; (try dsimp only at hSw); go_simp; (try with_reducible rfl))); (try simp only [Act.put, List.setIfInBounds_toArray, List.set_cons_zero, List.set_cons_succ]))
              (refine wpAnyH_take (i := 8) (oi := { dst := some 144, op := Op.fieldAddr 93 (Operand.tmp 10) 4, type := 0, pos := "law8.go:232", after := #[{ on := 7, ground := Ground.guard }], guard := some (7, false) }) (v := undef) rfl (by kernel_rfl) (by kernel_rfl) (by kernel_rfl) (fun _ _ _ h => h) (Or.inr ⟨by rfl, rfl⟩) (by assumption) ?_; (try simp only [Act.put, List.setIfInBounds_toArray, List.set_cons_zero, List.set_cons_succ]))
              (refine wpAnyH_take (i := 9) (oi := { dst := some 145, op := Op.slice 91 (Operand.tmp 144) none none none, type := 26, pos := "law8.go:232", after := #[{ on := 8, ground := Ground.data }, { on := 7, ground := Ground.guard }], guard := some (7, false) }) (v := undef) rfl (by kernel_rfl) (by kernel_rfl) (by kernel_rfl) (fun _ _ _ h => h) (Or.inr ⟨by rfl, rfl⟩) (by assumption) ?_; (try simp only [Act.put, List.setIfInBounds_toArray, List.set_cons_zero, List.set_cons_succ]))
              (refine wpAnyH_take (i := 10) (oi := { dst := some 146, op := Op.fieldAddr 87 (Operand.tmp 7) 0, type := 0, pos := "law8.go:232", after := #[{ on := 7, ground := Ground.guard }], guard := some (7, false) }) (v := undef) rfl (by kernel_rfl) (by kernel_rfl) (by kernel_rfl) (fun _ _ _ h => h) (Or.inr ⟨by rfl, rfl⟩) (by assumption) ?_; (try simp only [Act.put, List.setIfInBounds_toArray, List.set_cons_zero, List.set_cons_succ]))
              (refine wpAnyH_take (i := 11) (oi := { dst := some 147, op := Op.load 3 (Operand.tmp 146), type := 3, pos := "law8.go:232", after := #[{ on := 10, ground := Ground.data }, { on := 7, ground := Ground.guard }], guard := some (7, false) }) (v := undef) rfl (by kernel_rfl) (by kernel_rfl) (by kernel_rfl) (fun _ _ _ h => h) (Or.inr ⟨by rfl, rfl⟩) (by assumption) ?_; (try simp only [Act.put, List.setIfInBounds_toArray, List.set_cons_zero, List.set_cons_succ]))
              (refine wpAnyH_take (i := 12) (oi := { dst := some 148, op := Op.call { callee := Callee.value (Operand.func 49), args := #[Operand.tmp 145, Operand.tmp 147], argTypes := #[26, 3] }, type := 4, pos := "law8.go:232", after := #[{ on := 9, ground := Ground.data }, { on := 11, ground := Ground.data }, { on := 7, ground := Ground.chain }, { on := 7, ground := Ground.guard }], guard := some (7, false) }) (v := undef) rfl (by kernel_rfl) (by kernel_rfl) (by kernel_rfl) (fun _ _ _ h => h) (Or.inr ⟨by rfl, rfl⟩) (by assumption) ?_; (try simp only [Act.put, List.setIfInBounds_toArray, List.set_cons_zero, List.set_cons_succ]))
              (refine wpAnyH_take (i := 13) (oi := { dst := some 149, op := Op.pick (Operand.tmp 143) (Operand.const (Value.bool true)) (Operand.tmp 148), type := 4, pos := "law8.go:232", after := #[{ on := 7, ground := Ground.data }, { on := 12, ground := Ground.data }], guard := none }) (v := ?_) rfl (by kernel_rfl) (by kernel_rfl) (by kernel_rfl) (fun _ _ _ h => h) (Or.inl ⟨by rfl, ?_⟩) (by assumption) ?_; rotate_left; (focus (intro w hSw; (try dsimp only at hSw); go_simp; (try with_reducible rfl))); (try simp only [Act.put, List.setIfInBounds_toArray, List.set_cons_zero, List.set_cons_succ]))
              (refine wpAnyH_take (i := 14) (oi := { dst := some 6, op := Op.assign (Operand.tmp 149), type := 4, pos := "law8.go:232", after := #[{ on := 13, ground := Ground.data }, { on := 12, ground := Ground.chain }, { on := 0, ground := Ground.phase }, { on := 1, ground := Ground.phase }, { on := 2, ground := Ground.phase }, { on := 3, ground := Ground.phase }, { on := 4, ground := Ground.phase }, { on := 5, ground := Ground.phase }, { on := 6, ground := Ground.phase }, { on := 7, ground := Ground.phase }, { on := 8, ground := Ground.phase }, { on := 9, ground := Ground.phase }, { on := 10, ground := Ground.phase }, { on := 11, ground := Ground.phase }, { on := 12, ground := Ground.phase }, { on := 13, ground := Ground.phase }], guard := none }) (v := ?_) rfl (by kernel_rfl) (by kernel_rfl) (by kernel_rfl) (fun _ _ _ h => h) (Or.inl ⟨by rfl, ?_⟩) (by assumption) ?_; rotate_left; (focus (intro w hSw; (try dsimp only at hSw); go_simp; (try with_reducible rfl))); (try simp only [Act.put, List.setIfInBounds_toArray, List.set_cons_zero, List.set_cons_succ]))
              refine wpAnyH_done (by kernel_rfl) ?_ _
              go_wp2
              go_ret
              exact ⟨rfl, HBR.out.drew.trans (hb9.mono HBR.out.size)⟩
          · clear HE hsr kMr kLr
            go_upto_region 21 with (fail)
            go_quiet (fail)
            go_wp2
            go_ret
            exact ⟨rfl, below_drewN HBR.out _⟩
    · have q0 : decide ((0 : Int) < (fl.length : Int)) = true := decide_eq_true (by omega)
      have q1 : decide (0 < fl.length) = true := decide_eq_true hf
      clear hf hm HRR hE hc hnb hl0
      go_wp2_with fail
      refine (loaded_any w3).mono ?_
      rintro e w4 ⟨rfl, hb4⟩
      go_wp2
      go_ret
      exact ⟨rfl, hb.trans (hb4.mono hb.size)⟩
  · have hx0 : (x != 0) = true := by simpa using hx
    clear hx hm HRR
    go_wp2_with fail
    refine (loaded_any w3).mono ?_
    rintro e w4 ⟨rfl, hb4⟩
    go_wp2
    go_ret
    exact ⟨rfl, hb.trans (hb4.mono hb.size)⟩
end Go.Proofs.Ytbhjdinjoonngaa
