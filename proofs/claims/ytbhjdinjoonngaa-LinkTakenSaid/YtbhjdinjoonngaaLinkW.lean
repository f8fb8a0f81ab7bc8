/- link.Link: what it computes where nothing is wrong with its arguments. -/
import Derived.Test.YtbhjdinjoonngaaLkB
set_option linter.all false
namespace Go.Proofs.Ytbhjdinjoonngaa
open Go.RowKit

set_option maxHeartbeats 20000000 in
set_option maxRecDepth 100000 in
theorem link_ok (p : PtM) (n : Nat) (entry : ByteArray) (w : World) (h : p.At w w.heap.size) (hE : linkE p.er n entry = 0) :
    Calls Try.prog 41 #[.agg #[.slice p.fa p.frs.length p.fc, .slice p.da p.dfs.length p.dc], .int .i64 (n : Nat), .string entry] w (LinkIs w (linkP p.er n entry)) := by
  obtain ⟨hc, hnb, h0⟩ := linkE_zero hE
  obtain ⟨i0, hi0, hz0, hz1, hz2⟩ := info_parts Try.infoFlt
  obtain ⟨j0, hj0, hy0, hy1, hy2⟩ := info_parts Try.infoBytes2
  have hsm := small_of hc
  have hf6 := hsm.fr
  have hfl540 := faults_len hsm
  have HSM := Lib.hid hsm
  have HE := Lib.hid hE
  have HC := Lib.hid hc
  have H0 := Lib.hid h0
  have kP := ((Blk.new w 44 #[.slice p.fa p.frs.length p.fc, .slice p.da p.dfs.length p.dc]).alloc (.cells #[.string entry] 9)).alloc (.cells #[.int .i64 0, .slice none 0 0] 87)
  have kE := (Blk.new' (w.alloc (.cells #[.slice (p).fa (p).frs.length (p).fc, .slice (p).da (p).dfs.length (p).dc] 44)) 9 #[.string entry] (g := w.heap.size + 1) (by simp)).alloc (.cells #[.int .i64 0, .slice none 0 0] 87)
  have kI := Blk.new' ((w.alloc (.cells #[.slice (p).fa (p).frs.length (p).fc, .slice (p).da (p).dfs.length (p).dc] 44)).alloc (.cells #[.string entry] 9)) 87 #[.int .i64 0, .slice none 0 0] (g := w.heap.size + 1 + 1) (by simp)
  have hb : Below w.heap.size w (((w.alloc (.cells #[.slice (p).fa (p).frs.length (p).fc, .slice (p).da (p).dfs.length (p).dc] 44)).alloc (.cells #[.string entry] 9)).alloc (.cells #[.int .i64 0, .slice none 0 0] 87)) := by (repeat' (first | exact Below.refl _ _ | assumption | refine Below.setCell ?_ (by first | omega | exact Below.size (by assumption) | (simp; done) | (simp; omega)) _ | refine Below.alloc ?_ (by first | omega | exact Below.size (by assumption) | (simp; done) | (simp; omega)) _ | refine Below.drew ?_ | refine below_drewN ?_ _))
  have h1 := h.all hb
  clear h hE hc h0 hsm
  go_enter Try.func41, Try.ntmps41
  go_upto_region 2 with (fail)
  obtain ⟨W0, hW0⟩ : ∃ W, W = (((w.alloc (.cells #[.slice (p).fa (p).frs.length (p).fc, .slice (p).da (p).dfs.length (p).dc] 44)).alloc (.cells #[.string entry] 9)).alloc (.cells #[.int .i64 0, .slice none 0 0] 87)) := ⟨_, rfl⟩
  rw [← hW0] at kP kE kI hb h1 ⊢
  obtain ⟨gI, hgI'⟩ : ∃ g, g = w.heap.size + 1 + 1 := ⟨_, rfl⟩
  obtain ⟨gE, hgE'⟩ : ∃ g, g = w.heap.size + 1 := ⟨_, rfl⟩
  have hgI : w.heap.size ≤ gI := by omega
  rw [← hgI'] at kI ⊢
  rw [← hgE'] at kE ⊢
  clear hW0 hgI' hgE'
  have p0 := kP.cell 0
  have p1 := kP.cell 1
  go_wp2_with fail
  refine (check_any p W0 h1).mono ?_
  rintro e w2 ⟨rfl, hb2⟩
  rw [HC.out]
  have kP2 := kP.all hb2
  have kE2 := kE.all hb2
  have h2 := h1.all hb2
  have e0 := kE2.cell 0
  clear p0 p1
  go_wp2_with fail
  refine (name_any entry w2).mono ?_
  rintro e w' ⟨rfl, rfl⟩
  rw [hnb]
  have p0 := kP2.cell 0
  have p1 := kP2.cell 1
  clear e0 hnb
  go_wp2_with fail
  refine (lay_any p n w2 h2).mono ?_
  rintro e w3 ⟨l, rfl, hr, hl, hb3⟩
  have hlc := lay_cells hr H0.out
  rw [hlc, H0.out]
  replace hb2 := hb2.trans (hb3.mono hb2.size)
  have HR := Lib.hid hr
  clear hlc hb3 p0 p1 kP2 kE2 h2 hr
  go_upto_region 10 with (fail)
  have kL := Blk.new w3 93 #[(.slice l.fa p.frs.length l.fc), (.slice l.na (layEnd p.er n).ns.length l.nc), (.slice l.ca (layEnd p.er n).cs.length l.cc), (.int .i64 0), (.int .i64 (secFrom p.er.frs n 1 : Nat)), (.int .i64 (secFrom p.er.frs n 2 : Nat)), (.int .i64 (secFrom p.er.frs n 3 : Nat)), (.int .i64 (secFrom p.er.frs n 4 : Nat)), (.int .i64 (secFrom p.er.frs n 5 : Nat)), (.int .i64 0), (.int .i64 (toN p.er n 1 : Nat)), (.int .i64 (toN p.er n 2 : Nat)), (.int .i64 (toN p.er n 3 : Nat)), (.int .i64 (toN p.er n 4 : Nat)), (.int .i64 (toN p.er n 5 : Nat))]
  have hbx : Below w3.heap.size w3 (w3.alloc (.cells #[(.slice l.fa p.frs.length l.fc), (.slice l.na (layEnd p.er n).ns.length l.nc), (.slice l.ca (layEnd p.er n).cs.length l.cc), (.int .i64 0), (.int .i64 (secFrom p.er.frs n 1 : Nat)), (.int .i64 (secFrom p.er.frs n 2 : Nat)), (.int .i64 (secFrom p.er.frs n 3 : Nat)), (.int .i64 (secFrom p.er.frs n 4 : Nat)), (.int .i64 (secFrom p.er.frs n 5 : Nat)), (.int .i64 0), (.int .i64 (toN p.er n 1 : Nat)), (.int .i64 (toN p.er n 2 : Nat)), (.int .i64 (toN p.er n 3 : Nat)), (.int .i64 (toN p.er n 4 : Nat)), (.int .i64 (toN p.er n 5 : Nat))] 93)) := by (repeat' (first | exact Below.refl _ _ | assumption | refine Below.setCell ?_ (by first | omega | exact Below.size (by assumption) | (simp; done) | (simp; omega)) _ | refine Below.alloc ?_ (by first | omega | exact Below.size (by assumption) | (simp; done) | (simp; omega)) _ | refine Below.drew ?_ | refine below_drewN ?_ _))
  replace hb2 := hb2.trans (hbx.mono hb2.size)
  replace hl := hl.keep hbx hbx.size
  obtain ⟨gL, hgL⟩ : ∃ g, g = w3.heap.size := ⟨_, rfl⟩
  obtain ⟨W4, hW4⟩ : ∃ W, W = w3.alloc (.cells #[(.slice l.fa p.frs.length l.fc), (.slice l.na (layEnd p.er n).ns.length l.nc), (.slice l.ca (layEnd p.er n).cs.length l.cc), (.int .i64 0), (.int .i64 (secFrom p.er.frs n 1 : Nat)), (.int .i64 (secFrom p.er.frs n 2 : Nat)), (.int .i64 (secFrom p.er.frs n 3 : Nat)), (.int .i64 (secFrom p.er.frs n 4 : Nat)), (.int .i64 (secFrom p.er.frs n 5 : Nat)), (.int .i64 0), (.int .i64 (toN p.er n 1 : Nat)), (.int .i64 (toN p.er n 2 : Nat)), (.int .i64 (toN p.er n 3 : Nat)), (.int .i64 (toN p.er n 4 : Nat)), (.int .i64 (toN p.er n 5 : Nat))] 93) := ⟨_, rfl⟩
  rw [← hgL] at kL ⊢
  rw [← hW4] at hb2 kL hl ⊢
  clear hW4 hbx hgL
  replace kP := kP.all hb2
  replace kE := kE.all hb2
  replace kI := kI.all hb2
  replace h1 := h1.all hb2
  replace hb := hb.trans (hb2.mono hb.size)
  clear hb2
  have p0 := kP.cell 0
  have p1 := kP.cell 1
  go_wp2_with fail
  refine (faults_any p W4 h1).mono ?_
  rintro e w5 ⟨v5, rfl, _, hv5, hb5⟩
  have hF := hv5 HC.out
  rw [HC.out]
  rw [flts_x] at hF
  obtain ⟨fl, hfl⟩ : ∃ fl, fl = (faultsP p.er).map Flt.x := ⟨_, rfl⟩
  rw [← hfl] at hF
  have hfll : (faultsP p.er).length = fl.length := by rw [hfl, List.length_map]
  rw [hfll] at hF hfl540
  have HFL := Lib.hid hfl
  obtain ⟨A5, c5, rfl, hc5, hc6⟩ := own_form hF
  clear hv5 p0 p1 hfl hfll
  have p0 := (kP.all hb5).cell 0
  have p1 := (kP.all hb5).cell 1
  have e0 := (kE.all hb5).cell 0
  have HWH := Lib.hid (where_any p l n entry w5 (h1.all hb5) (hl.keep hb5 hb5.size) HR.out H0.out)
  have kL5 := kL.all hb5
  have x0 := kL5.cell 0
  have x1 := kL5.cell 1
  have x2 := kL5.cell 2
  have x3 := kL5.cell 3
  have x4 := kL5.cell 4
  have x5 := kL5.cell 5
  have x6 := kL5.cell 6
  have x7 := kL5.cell 7
  have x8 := kL5.cell 8
  have x9 := kL5.cell 9
  have x10 := kL5.cell 10
  have x11 := kL5.cell 11
  have x12 := kL5.cell 12
  have x13 := kL5.cell 13
  have x14 := kL5.cell 14
  go_wp2_with fail
  refine HWH.out.mono ?_
  rintro e w6 ⟨rfl, hb6⟩
  clear x0 x1 x2 x3 x4 x5 x6 x7 x8 x9 x10 x11 x12 x13 x14 p0 p1 e0 kL5 HWH
  have hF6 := own_all hF hb6
  have hb56 := hb5.trans (hb6.mono hb5.size)
  clear hb5 hb6 hF
  obtain ⟨⟨bg, be⟩, hbg⟩ : ∃ t, whereA p.er n entry = t := ⟨_, rfl⟩
  rw [hbg]
  have HBG := Lib.hid hbg
  dsimp only
  clear hbg
  have HF0 : Hid (linkFl0 p.er n entry = fl ++ (if be = 7 ∧ entry ∉ fl.map Flx.name then [⟨7, entry, 0, 0⟩] else [])) := by
    show _ = _
    unfold linkFl0
    rw [HBG.out, HFL.out, List.map_map]
    rfl
  have kE6 := kE.all hb56
  go_upto_region 12 with (fail)
  go_cut [74] (fun s wx => ∃ bq : Bool, s = .bool bq ∧ Hid (bq = decide (be = 7 ∧ entry ∉ fl.map Flx.name)) ∧ Below w6.heap.size w6 wx)
  case first =>
    by_cases h7 : be = 7
    · subst h7
      have HHF := Lib.hid (hasFFlt_any A5 c5 fl (fun f => f.name.toList == entry.toList) gE w6 (Reads.of_own hF6) (by omega) (fun x hx W hW => link2_any x entry gE W (kE6.all hW)))
      obtain ⟨t, ht⟩ : ∃ t, (fl.any fun f => f.name.toList == entry.toList) = t := ⟨_, rfl⟩
      rw [ht] at HHF
      have HT : Hid (t = decide (entry ∈ fl.map Flx.name)) := by show _ = _; rw [← ht, name_any_eq]
      clear ht
      go_wp2_with (go_at_call 98; refine HHF.out.mono ?_; rintro e w7 ⟨rfl, hb7⟩)
      go_meet
      refine ⟨_, rfl, Lib.hid ?_, hb7⟩
      rw [HT.out]
      rcases Decidable.em (entry ∈ fl.map Flx.name) with hm | hm
      · rw [decide_eq_true hm, decide_eq_false (fun h => h.2 hm)]; rfl
      · rw [decide_eq_false hm, decide_eq_true ⟨by first | rfl | trivial, hm⟩]; rfl
    · have q7 : (be == 7) = false := by simpa using h7
      have H7 := Lib.hid h7
      clear h7
      go_wp2_with fail
      go_meet
      exact ⟨_, rfl, Lib.hid (by symm; exact decide_eq_false (fun h => H7.out h.1)), Below.refl _ _⟩
  case rest =>
    obtain ⟨bq, rfl, hbq, hb7⟩ := hcut
    have hF7 := own_all hF6 hb7
    have hb57 := hb56.trans (hb7.mono hb56.size)
    clear hF6 hb56 hb7 kE6
    obtain ⟨fl0, hfl0⟩ : ∃ fl0, linkFl0 p.er n entry = fl0 := ⟨_, rfl⟩
    rw [hfl0] at HF0
    have HFL0 := Lib.hid hfl0
    clear hfl0
    go_upto_if 74 with (fail)
    go_cut [13] (fun v wx => fl0.length ≤ 541 ∧ wx.ownsRow W4.heap.size 114 4 v fl0.length (flxsV fl0) ∧ Below W4.heap.size W4 wx)
    case first =>
      cases bq with
      | false =>
        have e : fl0 = fl := by rw [HF0.out, if_neg (of_decide_eq_false hbq.out.symm), List.append_nil]
        have HEE := Lib.hid e
        clear e
        go_wp2_with fail
        go_meet
        exact ⟨by rw [HEE.out]; omega, by rw [HEE.out]; exact hF7, hb57⟩
      | true =>
        have hq := of_decide_eq_true hbq.out.symm
        have e : fl0 = fl ++ [⟨7, entry, 0, 0⟩] := by rw [HF0.out, if_pos hq]
        have HEE := Lib.hid e
        obtain ⟨h7, _⟩ := hq
        subst h7
        have e0 := (kE.all hb57).cell 0
        clear e
        go_wp2_with (at_builtin
                     refine wpList_append_own _ rfl (.tmp 75) (.tmp 79) 88 rfl W4.heap.size 114 i0 _ 4 40 Try.underlying88 hi0 hz0 hz1 hz2 rfl (by decide) _ _ _ rfl (hF7.alloc _) ⟨wc.heap.size, 0, none⟩ 1 1 [.int .i64 7, .string entry, .int .i64 0, .int .i64 0] rfl rfl ?c1 ?c2 ?c3 ?c4 ?c5 ?_
                     case c1 => exact fun j u hu => cells_new j u hu
                     case c2 => exact flx_one ⟨7, entry, 0, 0⟩
                     case c3 => unfold maxLen; omega
                     case c4 => omega
                     case c5 => have := hb57.size; simp; omega
                     intro v8 w8 hown8 hg8 _
                     have hb8 := below_grow (hb57.alloc hb57.size _) (hF7.alloc _) hg8 (by have := hb57.size; simp; omega)
                     have hO8 : w8.ownsRow W4.heap.size 114 4 v8 fl0.length (flxsV fl0) := by rw [HEE.out, flxsV_append, List.length_append]; exact hown8
                     clear hg8 hown8)
        go_meet
        exact ⟨by rw [HEE.out, List.length_append]; show fl.length + 1 ≤ _; omega, hO8, hb8⟩
    case rest =>
      obtain ⟨hfl5, hF8, hb8⟩ := hcut
      clear hF7 hb57 hbq HF0
      have y0 := (kP.all hb8).cell 0
      go_wp2_with fail
      clear y0
      go_loopw [13, 16, 84] (fun u v i wr => ∃ (k : Nat) (bl : List BsM) (fl : List Flx), k ≤ p.frs.length ∧ i = .int .i64 k ∧ Hid (bl.map BsM.bs = (List.range k).map fun j => (filledP p.er n j).1) ∧ bl.length ≤ k ∧ Hid (fl = fl0 ++ (List.range k).flatMap fun j => (filledP p.er n j).2) ∧ fl.length ≤ 541 + 8 * k ∧
        wr.ownsRow W4.heap.size 97 1 v bl.length (bssV bl) ∧ Hid (∀ x ∈ bl, wr.ownsRow W4.heap.size 5 1 x.v x.bs.length (bytesV x.bs)) ∧ wr.ownsRow W4.heap.size 114 4 u fl.length (flxsV fl) ∧ Below W4.heap.size W4 wr) (fun _ _ i _ => p.frs.length - (intOf i).toNat)
      case atStart => exact ⟨0, [], fl0, Nat.zero_le _, rfl, Lib.hid rfl, Nat.zero_le _, Lib.hid (by simp), by omega, World.ownsRow_nil _ _ _ _, Lib.hid (fun _ h => absurd h (by simp)), hF8, hb8⟩
      case round =>
        clear hF8 hb8
        obtain ⟨k, bl, fl1, hk, rfl, hbl, hbk, hfe, hfk, hV, hX, hU, hbr⟩ := hrel
        obtain ⟨Av, cv, rfl, hv1, hv2⟩ := own_form hV
        obtain ⟨Au, cu, rfl, hu1, hu2⟩ := own_form hU
        by_cases hlt : k < p.frs.length
        · have HFI := Lib.hid (filled_any p l n k wr (h1.keep hbr hbr.size) (hl.keep hbr hbr.size) HR.out H0.out hlt)
          have hf8 := filled_flen HSM.out n k
          have p0 := (kP.all hbr).cell 0
          have p1 := (kP.all hbr).cell 1
          have kL5 := kL.all hbr
          have x0 := kL5.cell 0
          have x1 := kL5.cell 1
          have x2 := kL5.cell 2
          have x3 := kL5.cell 3
          have x4 := kL5.cell 4
          have x5 := kL5.cell 5
          have x6 := kL5.cell 6
          have x7 := kL5.cell 7
          have x8 := kL5.cell 8
          have x9 := kL5.cell 9
          have x10 := kL5.cell 10
          have x11 := kL5.cell 11
          have x12 := kL5.cell 12
          have x13 := kL5.cell 13
          have x14 := kL5.cell 14
          go_wp2_with fail
          refine HFI.out.mono ?_
          rintro e w9 ⟨v9, u9, rfl, hv9, hu9, hb9⟩
          clear x0 x1 x2 x3 x4 x5 x6 x7 x8 x9 x10 x11 x12 x13 x14 p0 p1 kL5 HFI
          replace hv9 := hv9.mono hbr.size
          replace hu9 := hu9.mono hbr.size
          obtain ⟨A9, c9, rfl, hc9, hc10⟩ := own_form hv9
          obtain ⟨Au9, cu9, rfl, hc11, hc12⟩ := own_form hu9
          have hV9 := own_all hV hb9
          have hU9 := own_all hU hb9
          have hX9 : Hid (∀ x ∈ bl, w9.ownsRow W4.heap.size 5 1 x.v x.bs.length (bytesV x.bs)) := fun x hx => own_all (hX.out x hx) hb9
          have hb10 := hbr.trans (hb9.mono hbr.size)
          obtain ⟨⟨bs9, fl9⟩, hfil⟩ : ∃ t, filledP p.er n k = t := ⟨_, rfl⟩
          rw [hfil] at hv9 hu9 hf8 ⊢
          dsimp only at hv9 hu9 hf8 ⊢
          have HBL : Hid ((bl ++ [(⟨A9, c9, bs9⟩ : BsM)]).map BsM.bs = (List.range (k + 1)).map fun j => (filledP p.er n j).1) := by
            show _ = _
            rw [List.map_append, hbl.out, List.range_succ, List.map_append]
            simp only [List.map_cons, List.map_nil, hfil]
          have HFE : Hid (fl1 ++ fl9 = fl0 ++ (List.range (k + 1)).flatMap fun j => (filledP p.er n j).2) := by
            show _ = _
            rw [hfe.out, List.range_succ, List.flatMap_append, List.append_assoc]
            simp only [List.flatMap_cons, List.flatMap_nil, List.append_nil, hfil]
          clear hfil hbl hfe hV hU hX hb9 hbr
          have kX := Blk.new w9 97 #[.slice A9 bs9.length c9]
          go_wp2_with (first
            | (at_builtin
               refine wpList_append_own _ rfl (.tmp 94) (.tmp 96) 170 rfl W4.heap.size 97 j0 _ 1 24 Try.underlying170 hj0 hy0 hy1 hy2 rfl (by decide) _ _ _ rfl (hV9.alloc _) ⟨w9.heap.size, 0, none⟩ 1 1 [.slice A9 bs9.length c9] rfl rfl ?c1 ?c2 ?c3 ?c4 ?c5 ?_
               case c1 => exact fun j u hu => cells_new j u hu
               case c2 => exact bss_one [⟨A9, c9, bs9⟩]
               case c3 => unfold maxLen; omega
               case c4 => omega
               case c5 => have := hb10.size; simp; omega
               intro v11 w11 hown11 hg11 _
               have hb11 := below_grow (hb10.alloc hb10.size _) (hV9.alloc _) hg11 (by have := hb10.size; simp; omega)
               have hV11 : w11.ownsRow W4.heap.size 97 1 v11 (bl ++ [(⟨A9, c9, bs9⟩ : BsM)]).length (bssV (bl ++ [⟨A9, c9, bs9⟩])) := by rw [bssV_append, List.length_append]; exact hown11
               have hU11 := own_kept (hU9.alloc (.cells #[.slice A9 bs9.length c9] 97)) hg11 (own_row_ne hU9 hV9 (by decide))
               have hu11 := own_kept (hu9.alloc (.cells #[.slice A9 bs9.length c9] 97)) hg11 (own_row_ne hu9 hV9 (by decide))
               have hX11 : Hid (∀ x ∈ bl ++ [(⟨A9, c9, bs9⟩ : BsM)], w11.ownsRow W4.heap.size 5 1 x.v x.bs.length (bytesV x.bs)) := fun x hx => by
                 rcases List.mem_append.1 hx with hx | hx
                 · exact own_kept ((hX9.out x hx).alloc (.cells #[.slice A9 bs9.length c9] 97)) hg11 (own_row_ne (hX9.out x hx) hV9 (by decide))
                 · obtain rfl : x = ⟨A9, c9, bs9⟩ := by simpa using hx
                   exact own_kept (hv9.alloc (.cells #[.slice A9 bs9.length c9] 97)) hg11 (own_row_ne hv9 hV9 (by decide))
               clear hown11 hg11)
            | (at_builtin
               refine wpList_append_any _ rfl (.tmp 98) (.tmp 99) 88 rfl W4.heap.size 114 i0 _ 4 40 Try.underlying88 hi0 hz0 hz1 hz2 rfl (by decide) _ _ _ rfl hU11 _ Au9 fl9.length cu9 (flxsV fl9) rfl (Reads.of_own hu11) (flxsV_one _) ?c6 ?c7 ?c8 ?_
               case c6 => unfold maxLen; omega
               case c7 => omega
               case c8 => exact hb11.size
               intro v12 w12 hown12 hg12 _
               have hb12 := below_grow hb11 hU11 hg12 hb11.size
               have hU12 : w12.ownsRow W4.heap.size 114 4 v12 (fl1 ++ fl9).length (flxsV (fl1 ++ fl9)) := by rw [flxsV_append, List.length_append]; exact hown12
               have hV12 := own_kept hV11 hg12 (own_row_ne hV11 hU11 (by decide))
               have hX12 : Hid (∀ x ∈ bl ++ [(⟨A9, c9, bs9⟩ : BsM)], w12.ownsRow W4.heap.size 5 1 x.v x.bs.length (bytesV x.bs)) := fun x hx => own_kept (hX11.out x hx) hg12 (own_row_ne (hX11.out x hx) hU11 (by decide))
               clear hown12 hg12))
          go_roundw
          case rel => exact ⟨k + 1, bl ++ [⟨A9, c9, bs9⟩], fl1 ++ fl9, by omega, by go_num, HBL, by rw [List.length_append]; show bl.length + 1 ≤ _; omega, HFE, by rw [List.length_append]; omega, hV12, hX12, hU12, hb12⟩
          case measure => simp [intOf]; omega
        · obtain rfl : k = p.frs.length := by omega
          have hlen : p.er.frs.length = p.frs.length := by simp [PtM.er]
          have HLF : Hid (linkFl p.er n entry = fl1) := by
            show _ = _
            unfold linkFl
            rw [HFL0.out, hlen, hfe.out]
          rcases Nat.eq_zero_or_pos fl1.length with hz | hz
          · have q0 : decide (0 < fl1.length) = false := decide_eq_false (by omega)
            have q1 : decide ((0 : Int) < (fl1.length : Int)) = false := decide_eq_false (by omega)
            have HZ := Lib.hid (List.eq_nil_of_length_eq_zero hz)
            clear hz hlen hfe hfk hU
            have HP := Lib.hid (linkP_ok HE.out (by rw [HLF.out, HZ.out]))
            have hBA : BssAt wr wr.heap.size Av bl := ⟨Reads.of_own hV, fun x hx => Reads.of_own (hX.out x hx)⟩
            have HAL : Hid (bl.map BsM.bs = (List.range p.frs.length).map fun i => (filledP p.er n i).1) := hbl
            obtain ⟨m0, hm0, hm1, hm2, hm3⟩ := info_parts Try.infoSeg
            have kP := kP.all hbr
            have kL := kL.all hbr
            have kI := kI.all hbr
            have h1 := h1.keep hbr hbr.size
            have hl := hl.keep hbr hbr.size
            have hb := hb.trans (hbr.mono hb.size)
            clear hbl hV hX hfl5 hfl540
            go_wp2_with fail
            have hL : LKS ((((wr.alloc (.cells #[.int .i64 bg, .slice none 0 0] 87)).alloc (.cells #[.int .i64 1] 3)).alloc (.cells #[.int .i64 2, .int .i64 3] 3)).alloc (.cells #[.int .i64 4, .int .i64 5] 3)) wr.heap.size wr.heap.size (wr.heap.size + 1) (wr.heap.size + 1 + 1) (wr.heap.size + 1 + 1 + 1) bg none 0 [] :=
              ⟨World.ownsRow_nil _ _ _ _, fun _ h => absurd h (by simp), (((Blk.new' _ _ _ rfl).alloc _).alloc _).alloc _, ((Blk.new' _ _ _ (by simp)).alloc _).alloc _, (Blk.new' _ _ _ (by simp)).alloc _, Blk.new' _ _ _ (by simp)⟩
            have hq : Below wr.heap.size wr ((((wr.alloc (.cells #[.int .i64 bg, .slice none 0 0] 87)).alloc (.cells #[.int .i64 1] 3)).alloc (.cells #[.int .i64 2, .int .i64 3] 3)).alloc (.cells #[.int .i64 4, .int .i64 5] 3)) := by (repeat' (first | exact Below.refl _ _ | assumption | refine Below.setCell ?_ (by first | omega | exact Below.size (by assumption) | (simp; done) | (simp; omega)) _ | refine Below.alloc ?_ (by first | omega | exact Below.size (by assumption) | (simp; done) | (simp; omega)) _ | refine Below.drew ?_ | refine below_drewN ?_ _))
            obtain ⟨W9, hW9⟩ : ∃ W, W = ((((wr.alloc (.cells #[.int .i64 bg, .slice none 0 0] 87)).alloc (.cells #[.int .i64 1] 3)).alloc (.cells #[.int .i64 2, .int .i64 3] 3)).alloc (.cells #[.int .i64 4, .int .i64 5] 3)) := ⟨_, rfl⟩
            rw [← hW9] at hL hq ⊢
            obtain ⟨gO, hgO⟩ : ∃ g, g = wr.heap.size := ⟨_, rfl⟩
            have hgO1 : wr.heap.size ≤ gO := by omega
            have hL' : LKS W9 wr.heap.size gO (wr.heap.size + 1) (wr.heap.size + 1 + 1) (wr.heap.size + 1 + 1 + 1) bg none 0 [] := by rw [hgO]; exact hL
            obtain ⟨g1, hg1⟩ : ∃ g, g = wr.heap.size + 1 := ⟨_, rfl⟩
            obtain ⟨g2, hg2⟩ : ∃ g, g = wr.heap.size + 1 + 1 := ⟨_, rfl⟩
            obtain ⟨g3, hg3⟩ : ∃ g, g = wr.heap.size + 1 + 1 + 1 := ⟨_, rfl⟩
            rw [← hg3] at hL' ⊢
            rw [← hg2] at hL' ⊢
            rw [← hg1] at hL' ⊢
            rw [← hgO]
            clear hL hW9 hg1 hg2 hg3 hgO
            have hL := hL'
            clear hL'
            have hx0 : ∀ W, (Instr.index 173 (.agg #[.slice (some ⟨g1, 0, none⟩) 1 1, .slice (some ⟨g2, 0, none⟩) 2 2, .slice (some ⟨g3, 0, none⟩) 2 2]) (.int .i64 0)).run Try.prog W = .ok (.slice (some ⟨g1, 0, none⟩) 1 1) W := fun _ => by kernel_rfl
            have hx1 : ∀ W, (Instr.index 173 (.agg #[.slice (some ⟨g1, 0, none⟩) 1 1, .slice (some ⟨g2, 0, none⟩) 2 2, .slice (some ⟨g3, 0, none⟩) 2 2]) (.int .i64 1)).run Try.prog W = .ok (.slice (some ⟨g2, 0, none⟩) 2 2) W := fun _ => by kernel_rfl
            have hx2 : ∀ W, (Instr.index 173 (.agg #[.slice (some ⟨g1, 0, none⟩) 1 1, .slice (some ⟨g2, 0, none⟩) 2 2, .slice (some ⟨g3, 0, none⟩) 2 2]) (.int .i64 2)).run Try.prog W = .ok (.slice (some ⟨g3, 0, none⟩) 2 2) W := fun _ => by kernel_rfl
            refine wp_loop_rounds 4 ?_
            rw [rounds_succ]
            go_upto_region 27 with (fail)
            (have HSS : Hid (∀ wv, Blk wv gO 87 #[.int .i64 bg, .slice none ([] : List Seg).length 0] → Below wr.heap.size wr wv → (fun w' => w'.cell? ⟨gO, 1, none⟩ = some (.slice none ([] : List Seg).length 0) ∧ w'.cell? ⟨w.heap.size, 0, none⟩ = some (.slice p.fa p.frs.length p.fc) ∧ w'.cell? ⟨w.heap.size, 1, none⟩ = some (.slice p.da p.dfs.length p.dc) ∧ w'.cell? ⟨gL, 0, none⟩ = some (.slice l.fa p.frs.length l.fc) ∧ w'.cell? ⟨gL, 1, none⟩ = some (.slice l.na (layEnd p.er n).ns.length l.nc) ∧ w'.cell? ⟨gL, 2, none⟩ = some (.slice l.ca (layEnd p.er n).cs.length l.cc) ∧ w'.cell? ⟨gL, 3, none⟩ = some (.int .i64 0) ∧ w'.cell? ⟨gL, 4, none⟩ = some (.int .i64 (secFrom p.er.frs n 1 : Nat)) ∧ w'.cell? ⟨gL, 5, none⟩ = some (.int .i64 (secFrom p.er.frs n 2 : Nat)) ∧ w'.cell? ⟨gL, 6, none⟩ = some (.int .i64 (secFrom p.er.frs n 3 : Nat)) ∧ w'.cell? ⟨gL, 7, none⟩ = some (.int .i64 (secFrom p.er.frs n 4 : Nat)) ∧ w'.cell? ⟨gL, 8, none⟩ = some (.int .i64 (secFrom p.er.frs n 5 : Nat)) ∧ w'.cell? ⟨gL, 9, none⟩ = some (.int .i64 0) ∧ w'.cell? ⟨gL, 10, none⟩ = some (.int .i64 (toN p.er n 1 : Nat)) ∧ w'.cell? ⟨gL, 11, none⟩ = some (.int .i64 (toN p.er n 2 : Nat)) ∧ w'.cell? ⟨gL, 12, none⟩ = some (.int .i64 (toN p.er n 3 : Nat)) ∧ w'.cell? ⟨gL, 13, none⟩ = some (.int .i64 (toN p.er n 4 : Nat)) ∧ w'.cell? ⟨gL, 14, none⟩ = some (.int .i64 (toN p.er n 5 : Nat))) wv) := (fun wv hx hq => ⟨hx.cell 1, (kP.all hq).cell 0, (kP.all hq).cell 1, (kL.all hq).cell 0, (kL.all hq).cell 1, (kL.all hq).cell 2, (kL.all hq).cell 3, (kL.all hq).cell 4, (kL.all hq).cell 5, (kL.all hq).cell 6, (kL.all hq).cell 7, (kL.all hq).cell 8, (kL.all hq).cell 9, (kL.all hq).cell 10, (kL.all hq).cell 11, (kL.all hq).cell 12, (kL.all hq).cell 13, (kL.all hq).cell 14⟩); have hL1 := hL.all ((Below.refl W9.heap.size W9).drew); have hq1 := hq.drew; refine wp_region_late (S := (fun w' => w'.cell? ⟨gO, 1, none⟩ = some (.slice none ([] : List Seg).length 0) ∧ w'.cell? ⟨w.heap.size, 0, none⟩ = some (.slice p.fa p.frs.length p.fc) ∧ w'.cell? ⟨w.heap.size, 1, none⟩ = some (.slice p.da p.dfs.length p.dc) ∧ w'.cell? ⟨gL, 0, none⟩ = some (.slice l.fa p.frs.length l.fc) ∧ w'.cell? ⟨gL, 1, none⟩ = some (.slice l.na (layEnd p.er n).ns.length l.nc) ∧ w'.cell? ⟨gL, 2, none⟩ = some (.slice l.ca (layEnd p.er n).cs.length l.cc) ∧ w'.cell? ⟨gL, 3, none⟩ = some (.int .i64 0) ∧ w'.cell? ⟨gL, 4, none⟩ = some (.int .i64 (secFrom p.er.frs n 1 : Nat)) ∧ w'.cell? ⟨gL, 5, none⟩ = some (.int .i64 (secFrom p.er.frs n 2 : Nat)) ∧ w'.cell? ⟨gL, 6, none⟩ = some (.int .i64 (secFrom p.er.frs n 3 : Nat)) ∧ w'.cell? ⟨gL, 7, none⟩ = some (.int .i64 (secFrom p.er.frs n 4 : Nat)) ∧ w'.cell? ⟨gL, 8, none⟩ = some (.int .i64 (secFrom p.er.frs n 5 : Nat)) ∧ w'.cell? ⟨gL, 9, none⟩ = some (.int .i64 0) ∧ w'.cell? ⟨gL, 10, none⟩ = some (.int .i64 (toN p.er n 1 : Nat)) ∧ w'.cell? ⟨gL, 11, none⟩ = some (.int .i64 (toN p.er n 2 : Nat)) ∧ w'.cell? ⟨gL, 12, none⟩ = some (.int .i64 (toN p.er n 3 : Nat)) ∧ w'.cell? ⟨gL, 13, none⟩ = some (.int .i64 (toN p.er n 4 : Nat)) ∧ w'.cell? ⟨gL, 14, none⟩ = some (.int .i64 (toN p.er n 5 : Nat)))) [10] (by kernel_rfl) (HSS.out _ hL1.box hq1) (fun hHeld => ?_); obtain ⟨wv, hwv⟩ : ∃ x, x = W9.drew := ⟨_, rfl⟩; rw [← hwv] at hL1 hq1 hHeld ⊢; clear hwv hL hq; (refine wpAnyL_take (i := 0) (oi := { dst := some 116, op := Op.fieldAddr 87 (Operand.tmp 20) 1, type := 0, pos := "link.go:96", after := #[], guard := none }) (v := ?_) rfl (by kernel_rfl) (by kernel_rfl) (by kernel_rfl) (fun _ _ _ h => h) (Or.inl ⟨by rfl, ?_⟩) (by assumption) (by kernel_rfl) (by rfl) ?_; rotate_left; (focus (intro w hSw; (try dsimp only at hSw); go_simp; (try with_reducible rfl))); (try simp only [Act.put, List.setIfInBounds_toArray, List.set_cons_zero, List.set_cons_succ])); (refine wpAnyL_take (i := 1) (oi := { dst := some 117, op := Op.load 85 (Operand.tmp 116), type := 85, pos := "link.go:96", after := #[{ on := 0, ground := Ground.data }], guard := none }) (v := ?_) rfl (by kernel_rfl) (by kernel_rfl) (by kernel_rfl) (fun _ _ _ h => h) (Or.inl ⟨by rfl, ?_⟩) (by assumption) (by kernel_rfl) (by rfl) ?_; rotate_left; (focus (intro w hSw; (try dsimp only at hSw); go_simp; (try with_reducible rfl))); (try simp only [Act.put, List.setIfInBounds_toArray, List.set_cons_zero, List.set_cons_succ])); (refine wpAnyL_take (i := 2) (oi := { dst := some 118, op := Op.load 44 (Operand.tmp 3), type := 44, pos := "link.go:96", after := #[], guard := none }) (v := ?_) rfl (by kernel_rfl) (by kernel_rfl) (by kernel_rfl) (fun _ _ _ h => h) (Or.inl ⟨by rfl, ?_⟩) (by assumption) (by kernel_rfl) (by rfl) ?_; rotate_left; (focus (intro w hSw; (try dsimp only at hSw); go_simp; (try with_reducible rfl))); (try simp only [Act.put, List.setIfInBounds_toArray, List.set_cons_zero, List.set_cons_succ])); (refine wpAnyL_take (i := 3) (oi := { dst := some 119, op := Op.load 93 (Operand.tmp 11), type := 93, pos := "link.go:96", after := #[], guard := none }) (v := ?_) rfl (by kernel_rfl) (by kernel_rfl) (by kernel_rfl) (fun _ _ _ h => h) (Or.inl ⟨by rfl, ?_⟩) (by assumption) (by kernel_rfl) (by rfl) ?_; rotate_left; (focus (intro w hSw; (try dsimp only at hSw); go_simp; (try with_reducible rfl))); (try simp only [Act.put, List.setIfInBounds_toArray, List.set_cons_zero, List.set_cons_succ])); (refine wpAnyL_take (i := 4) (oi := { dst := some 120, op := Op.move (Operand.tmp 16), type := 170, pos := "link.go:96", after := #[], guard := none }) (v := ?_) rfl (by kernel_rfl) (by kernel_rfl) (by kernel_rfl) (fun _ _ _ h => h) (Or.inl ⟨by rfl, ?_⟩) (by assumption) (by kernel_rfl) (by rfl) ?_; rotate_left; (focus (intro w hSw; (try dsimp only at hSw); go_simp; (try with_reducible rfl))); (try simp only [Act.put, List.setIfInBounds_toArray, List.set_cons_zero, List.set_cons_succ])); (refine wpAnyL_take (i := 5) (oi := { dst := some 121, op := Op.move (Operand.tmp 22), type := 26, pos := "link.go:96", after := #[], guard := none }) (v := ?_) rfl (by kernel_rfl) (by kernel_rfl) (by kernel_rfl) (fun _ _ _ h => h) (Or.inl ⟨by rfl, ?_⟩) (by assumption) (by kernel_rfl) (by rfl) ?_; rotate_left; (focus (intro w hSw; (try dsimp only at hSw); go_simp; (try with_reducible rfl))); (try simp only [Act.put, List.setIfInBounds_toArray, List.set_cons_zero, List.set_cons_succ])); (refine wpAnyL_ready (rs := [6]) (by kernel_rfl) (by simp) ?_; refine List.forall_mem_cons.2 ⟨?_, fun _ h => by cases h⟩); refine stepL (o := { dst := some 122, op := Op.call { callee := Callee.value (Operand.func 101), args := #[Operand.tmp 118, Operand.tmp 119, Operand.tmp 120, Operand.tmp 121], argTypes := #[44, 93, 170, 26] }, type := 106, pos := "link.go:96", after := #[{ on := 2, ground := Ground.data }, { on := 3, ground := Ground.data }, { on := 4, ground := Ground.data }, { on := 5, ground := Ground.data }], guard := none }) rfl (fun K hK => ?_); go_simp; obtain ⟨sg, hsg⟩ : ∃ sg, segP p.er n 1 1 [1] = sg := ⟨_, rfl⟩; have HSEG := segment_any p l n Av cv bl [1] 1 1 (some ⟨g1, 0, none⟩) ([1] : List Int).length wv (h1.keep hq1 hq1.size) (hl.keep hq1 hq1.size) HR.out H0.out (hBA.keep hq1 hq1.size) HAL.out ((hL1.s1).reads (size := 1) (n := ([1] : List Int).length) rfl) trio_one (by omega); rw [hsg] at HSEG; refine HSEG.mono ?_; rintro e w8 ⟨A8, c8, rfl, hown8, hb8⟩; have hs8 := hown8.mono hq1.size; have hL2 := hL1.all hb8; have hq2 := hq1.trans (hb8.mono hq1.size); clear HSEG hL1 hq1 hown8 hb8; go_wp2_with fail; refine hK.out _ _ (HSS.out _ hL2.box hq2) (fun hHeld => ?_); (clear hK K; (try simp only [Act.put, List.setIfInBounds_toArray, List.set_cons_zero, List.set_cons_succ])); have hL3 := hL2.all ((Below.refl w8.heap.size w8).alloc (Nat.le_refl _) (.cells #[.int .i64 (sg.at_ : Nat), .slice A8 sg.bs.length c8, .int .i64 (sg.zeros : Nat), .bool sg.writes, .bool sg.works] 106)); have hq3 := hq2.alloc hq2.size (.cells #[.int .i64 (sg.at_ : Nat), .slice A8 sg.bs.length c8, .int .i64 (sg.zeros : Nat), .bool sg.writes, .bool sg.works] 106); have hs9 := hs8.alloc (.cells #[.int .i64 (sg.at_ : Nat), .slice A8 sg.bs.length c8, .int .i64 (sg.zeros : Nat), .bool sg.writes, .bool sg.works] 106); (refine wpAnyL_ready (rs := [7]) (by kernel_rfl) (by simp) ?_; refine List.forall_mem_cons.2 ⟨?_, fun _ h => by cases h⟩); refine stepL (o := { dst := some 123, op := Op.buildSlice 85 1 #[(0, Operand.tmp 122)], type := 85, pos := "link.go:96", after := #[{ on := 6, ground := Ground.data }], guard := none }) rfl (fun K hK => ?_); go_simp; refine hK.out _ _ (HSS.out _ hL3.box hq3) (fun hHeld => ?_); (clear hK K; (try simp only [Act.put, List.setIfInBounds_toArray, List.set_cons_zero, List.set_cons_succ])); (refine wpAnyL_ready (rs := [8]) (by kernel_rfl) (by simp) ?_; refine List.forall_mem_cons.2 ⟨?_, fun _ h => by cases h⟩); refine stepL (o := { dst := some 124, op := Op.call { callee := Callee.builtin Builtin.append, args := #[Operand.tmp 117, Operand.tmp 123], argTypes := #[85, 85] }, type := 85, pos := "link.go:96", after := #[{ on := 1, ground := Ground.data }, { on := 7, ground := Ground.data }, { on := 6, ground := Ground.chain }], guard := none }) rfl (fun K hK => ?_); refine step_append_lies _ rfl (.tmp 117) (.tmp 123) 85 rfl wr.heap.size 106 m0 _ 5 48 Try.underlying85 hm0 hm1 hm2 hm3 rfl (by decide) _ _ _ rfl hL3.row ⟨w8.heap.size, 0, none⟩ 1 1 [.int .i64 (sg.at_ : Nat), .slice A8 sg.bs.length c8, .int .i64 (sg.zeros : Nat), .bool sg.writes, .bool sg.works] rfl rfl ?c1 ?c2 (by omega) ?c3 ?c4 ?c5 _ rfl ?_; (case c1 => exact fun j u hu => cells_new j u hu); (case c2 => exact seg_one ⟨sg.at_, sg.bs, sg.zeros, sg.writes, sg.works, A8, c8⟩); (case c3 => (simp only [List.length_append, List.length_cons, List.length_nil]; unfold maxLen; omega)); (case c4 => (simp only [List.length_append, List.length_cons, List.length_nil]; omega)); (case c5 => have := hq2.size; simp; omega); intro g5 c5 w5 hown5 hg5 hat5 hlt5; have hq5 := below_grow hq3 hL3.row hg5 hq3.size; have b0 := (hL3.grow hg5).1; refine hK.out _ _ (HSS.out _ b0 hq5) (fun hHeld => ?_); (clear hK K; (try simp only [Act.put, List.setIfInBounds_toArray, List.set_cons_zero, List.set_cons_succ])); (refine wpAnyL_take (i := 9) (oi := { dst := some 125, op := Op.fieldAddr 87 (Operand.tmp 20) 1, type := 0, pos := "link.go:96", after := #[{ on := 0, ground := Ground.phase }, { on := 1, ground := Ground.phase }, { on := 2, ground := Ground.phase }, { on := 3, ground := Ground.phase }, { on := 4, ground := Ground.phase }, { on := 5, ground := Ground.phase }, { on := 6, ground := Ground.phase }, { on := 7, ground := Ground.phase }, { on := 8, ground := Ground.phase }], guard := none }) (v := ?_) rfl (by kernel_rfl) (by kernel_rfl) (by kernel_rfl) (fun _ _ _ h => h) (Or.inl ⟨by rfl, ?_⟩) (by assumption) (by kernel_rfl) (by rfl) ?_; rotate_left; (focus (intro w hSw; (try dsimp only at hSw); go_simp; (try with_reducible rfl))); (try simp only [Act.put, List.setIfInBounds_toArray, List.set_cons_zero, List.set_cons_succ])); have zs1 := b0.cell 1; have zf1 := b0.frozen 1; refine wpAnyL_ready (rs := [10]) (by kernel_rfl) (by simp) ?_; refine List.forall_mem_cons.2 ⟨stepLate (o := { dst := none, op := Op.store 85 (Operand.tmp 125) (Operand.tmp 124), type := 0, pos := "link.go:96", after := #[{ on := 9, ground := Ground.data }, { on := 8, ground := Ground.data }, { on := 8, ground := Ground.chain }, { on := 0, ground := Ground.phase }, { on := 1, ground := Ground.phase }, { on := 2, ground := Ground.phase }, { on := 3, ground := Ground.phase }, { on := 4, ground := Ground.phase }, { on := 5, ground := Ground.phase }, { on := 6, ground := Ground.phase }, { on := 7, ground := Ground.phase }, { on := 8, ground := Ground.phase }], guard := none }) rfl (by rfl) (fun K hK => ?_), fun _ h => by cases h⟩; go_simp; refine hK.out _ _ ?_; (clear hK K; (try simp only [Act.put, List.setIfInBounds_toArray, List.set_cons_zero, List.set_cons_succ])); have hL : LKS (w5.setCell ⟨gO, 1, none⟩ (.slice (some ⟨g5, 0, none⟩) 1 c5)) wr.heap.size gO g1 g2 g3 bg (some ⟨g5, 0, none⟩) c5 ([] ++ [⟨sg.at_, sg.bs, sg.zeros, sg.writes, sg.works, A8, c8⟩]) := hL3.push (s := ⟨sg.at_, sg.bs, sg.zeros, sg.writes, sg.works, A8, c8⟩) hs9 hown5 hg5; have hq := hq5.setCell (p := ⟨gO, 1, none⟩) hgO1 (.slice (some ⟨g5, 0, none⟩) 1 c5); refine wpAnyL_done (by kernel_rfl) ?_ _; obtain ⟨W9, hW9⟩ : ∃ W, W = w5.setCell ⟨gO, 1, none⟩ (.slice (some ⟨g5, 0, none⟩) 1 c5) := ⟨_, rfl⟩; rw [← hW9] at hL hq ⊢; clear hW9 hL2 hL3 hq2 hq3 hs8 hs9 hown5 hg5 hat5 hlt5 hq5 b0 zs1 zf1 HSS)
            obtain ⟨s1, hs1⟩ : ∃ s : Seg, s = ⟨sg.at_, sg.bs, sg.zeros, sg.writes, sg.works, A8, c8⟩ := ⟨_, rfl⟩
            have HE1 : Hid (s1.er = (segP p.er n 1 1 [1]).seg) := by show _ = _; rw [hs1, hsg]; rfl
            obtain ⟨X1, hX1⟩ : ∃ a : Option Addr, a = some ⟨g5, 0, none⟩ := ⟨_, rfl⟩
            obtain ⟨d1, hd1⟩ : ∃ x, x = c5 := ⟨_, rfl⟩
            replace hL : LKS W9 wr.heap.size gO g1 g2 g3 bg X1 d1 [s1] := by rw [hX1, hd1, hs1]; exact hL
            clear hs1 hX1 hd1 hsg
            go_wp2_with fail
            rw [rounds_succ]
            go_upto_region 27 with (fail)
            (have HSS : Hid (∀ wv, Blk wv gO 87 #[.int .i64 bg, .slice X1 ([s1] : List Seg).length d1] → Below wr.heap.size wr wv → (fun w' => w'.cell? ⟨gO, 1, none⟩ = some (.slice X1 ([s1] : List Seg).length d1) ∧ w'.cell? ⟨w.heap.size, 0, none⟩ = some (.slice p.fa p.frs.length p.fc) ∧ w'.cell? ⟨w.heap.size, 1, none⟩ = some (.slice p.da p.dfs.length p.dc) ∧ w'.cell? ⟨gL, 0, none⟩ = some (.slice l.fa p.frs.length l.fc) ∧ w'.cell? ⟨gL, 1, none⟩ = some (.slice l.na (layEnd p.er n).ns.length l.nc) ∧ w'.cell? ⟨gL, 2, none⟩ = some (.slice l.ca (layEnd p.er n).cs.length l.cc) ∧ w'.cell? ⟨gL, 3, none⟩ = some (.int .i64 0) ∧ w'.cell? ⟨gL, 4, none⟩ = some (.int .i64 (secFrom p.er.frs n 1 : Nat)) ∧ w'.cell? ⟨gL, 5, none⟩ = some (.int .i64 (secFrom p.er.frs n 2 : Nat)) ∧ w'.cell? ⟨gL, 6, none⟩ = some (.int .i64 (secFrom p.er.frs n 3 : Nat)) ∧ w'.cell? ⟨gL, 7, none⟩ = some (.int .i64 (secFrom p.er.frs n 4 : Nat)) ∧ w'.cell? ⟨gL, 8, none⟩ = some (.int .i64 (secFrom p.er.frs n 5 : Nat)) ∧ w'.cell? ⟨gL, 9, none⟩ = some (.int .i64 0) ∧ w'.cell? ⟨gL, 10, none⟩ = some (.int .i64 (toN p.er n 1 : Nat)) ∧ w'.cell? ⟨gL, 11, none⟩ = some (.int .i64 (toN p.er n 2 : Nat)) ∧ w'.cell? ⟨gL, 12, none⟩ = some (.int .i64 (toN p.er n 3 : Nat)) ∧ w'.cell? ⟨gL, 13, none⟩ = some (.int .i64 (toN p.er n 4 : Nat)) ∧ w'.cell? ⟨gL, 14, none⟩ = some (.int .i64 (toN p.er n 5 : Nat))) wv) := (fun wv hx hq => ⟨hx.cell 1, (kP.all hq).cell 0, (kP.all hq).cell 1, (kL.all hq).cell 0, (kL.all hq).cell 1, (kL.all hq).cell 2, (kL.all hq).cell 3, (kL.all hq).cell 4, (kL.all hq).cell 5, (kL.all hq).cell 6, (kL.all hq).cell 7, (kL.all hq).cell 8, (kL.all hq).cell 9, (kL.all hq).cell 10, (kL.all hq).cell 11, (kL.all hq).cell 12, (kL.all hq).cell 13, (kL.all hq).cell 14⟩); have hL1 := hL.all ((Below.refl W9.heap.size W9).drew); have hq1 := hq.drew; refine wp_region_late (S := (fun w' => w'.cell? ⟨gO, 1, none⟩ = some (.slice X1 ([s1] : List Seg).length d1) ∧ w'.cell? ⟨w.heap.size, 0, none⟩ = some (.slice p.fa p.frs.length p.fc) ∧ w'.cell? ⟨w.heap.size, 1, none⟩ = some (.slice p.da p.dfs.length p.dc) ∧ w'.cell? ⟨gL, 0, none⟩ = some (.slice l.fa p.frs.length l.fc) ∧ w'.cell? ⟨gL, 1, none⟩ = some (.slice l.na (layEnd p.er n).ns.length l.nc) ∧ w'.cell? ⟨gL, 2, none⟩ = some (.slice l.ca (layEnd p.er n).cs.length l.cc) ∧ w'.cell? ⟨gL, 3, none⟩ = some (.int .i64 0) ∧ w'.cell? ⟨gL, 4, none⟩ = some (.int .i64 (secFrom p.er.frs n 1 : Nat)) ∧ w'.cell? ⟨gL, 5, none⟩ = some (.int .i64 (secFrom p.er.frs n 2 : Nat)) ∧ w'.cell? ⟨gL, 6, none⟩ = some (.int .i64 (secFrom p.er.frs n 3 : Nat)) ∧ w'.cell? ⟨gL, 7, none⟩ = some (.int .i64 (secFrom p.er.frs n 4 : Nat)) ∧ w'.cell? ⟨gL, 8, none⟩ = some (.int .i64 (secFrom p.er.frs n 5 : Nat)) ∧ w'.cell? ⟨gL, 9, none⟩ = some (.int .i64 0) ∧ w'.cell? ⟨gL, 10, none⟩ = some (.int .i64 (toN p.er n 1 : Nat)) ∧ w'.cell? ⟨gL, 11, none⟩ = some (.int .i64 (toN p.er n 2 : Nat)) ∧ w'.cell? ⟨gL, 12, none⟩ = some (.int .i64 (toN p.er n 3 : Nat)) ∧ w'.cell? ⟨gL, 13, none⟩ = some (.int .i64 (toN p.er n 4 : Nat)) ∧ w'.cell? ⟨gL, 14, none⟩ = some (.int .i64 (toN p.er n 5 : Nat)))) [10] (by kernel_rfl) (HSS.out _ hL1.box hq1) (fun hHeld => ?_); obtain ⟨wv, hwv⟩ : ∃ x, x = W9.drew := ⟨_, rfl⟩; rw [← hwv] at hL1 hq1 hHeld ⊢; clear hwv hL hq; (refine wpAnyL_take (i := 0) (oi := { dst := some 116, op := Op.fieldAddr 87 (Operand.tmp 20) 1, type := 0, pos := "link.go:96", after := #[], guard := none }) (v := ?_) rfl (by kernel_rfl) (by kernel_rfl) (by kernel_rfl) (fun _ _ _ h => h) (Or.inl ⟨by rfl, ?_⟩) (by assumption) (by kernel_rfl) (by rfl) ?_; rotate_left; (focus (intro w hSw; (try dsimp only at hSw); go_simp; (try with_reducible rfl))); (try simp only [Act.put, List.setIfInBounds_toArray, List.set_cons_zero, List.set_cons_succ])); (refine wpAnyL_take (i := 1) (oi := { dst := some 117, op := Op.load 85 (Operand.tmp 116), type := 85, pos := "link.go:96", after := #[{ on := 0, ground := Ground.data }], guard := none }) (v := ?_) rfl (by kernel_rfl) (by kernel_rfl) (by kernel_rfl) (fun _ _ _ h => h) (Or.inl ⟨by rfl, ?_⟩) (by assumption) (by kernel_rfl) (by rfl) ?_; rotate_left; (focus (intro w hSw; (try dsimp only at hSw); go_simp; (try with_reducible rfl))); (try simp only [Act.put, List.setIfInBounds_toArray, List.set_cons_zero, List.set_cons_succ])); (refine wpAnyL_take (i := 2) (oi := { dst := some 118, op := Op.load 44 (Operand.tmp 3), type := 44, pos := "link.go:96", after := #[], guard := none }) (v := ?_) rfl (by kernel_rfl) (by kernel_rfl) (by kernel_rfl) (fun _ _ _ h => h) (Or.inl ⟨by rfl, ?_⟩) (by assumption) (by kernel_rfl) (by rfl) ?_; rotate_left; (focus (intro w hSw; (try dsimp only at hSw); go_simp; (try with_reducible rfl))); (try simp only [Act.put, List.setIfInBounds_toArray, List.set_cons_zero, List.set_cons_succ])); (refine wpAnyL_take (i := 3) (oi := { dst := some 119, op := Op.load 93 (Operand.tmp 11), type := 93, pos := "link.go:96", after := #[], guard := none }) (v := ?_) rfl (by kernel_rfl) (by kernel_rfl) (by kernel_rfl) (fun _ _ _ h => h) (Or.inl ⟨by rfl, ?_⟩) (by assumption) (by kernel_rfl) (by rfl) ?_; rotate_left; (focus (intro w hSw; (try dsimp only at hSw); go_simp; (try with_reducible rfl))); (try simp only [Act.put, List.setIfInBounds_toArray, List.set_cons_zero, List.set_cons_succ])); (refine wpAnyL_take (i := 4) (oi := { dst := some 120, op := Op.move (Operand.tmp 16), type := 170, pos := "link.go:96", after := #[], guard := none }) (v := ?_) rfl (by kernel_rfl) (by kernel_rfl) (by kernel_rfl) (fun _ _ _ h => h) (Or.inl ⟨by rfl, ?_⟩) (by assumption) (by kernel_rfl) (by rfl) ?_; rotate_left; (focus (intro w hSw; (try dsimp only at hSw); go_simp; (try with_reducible rfl))); (try simp only [Act.put, List.setIfInBounds_toArray, List.set_cons_zero, List.set_cons_succ])); (refine wpAnyL_take (i := 5) (oi := { dst := some 121, op := Op.move (Operand.tmp 22), type := 26, pos := "link.go:96", after := #[], guard := none }) (v := ?_) rfl (by kernel_rfl) (by kernel_rfl) (by kernel_rfl) (fun _ _ _ h => h) (Or.inl ⟨by rfl, ?_⟩) (by assumption) (by kernel_rfl) (by rfl) ?_; rotate_left; (focus (intro w hSw; (try dsimp only at hSw); go_simp; (try with_reducible rfl))); (try simp only [Act.put, List.setIfInBounds_toArray, List.set_cons_zero, List.set_cons_succ])); (refine wpAnyL_ready (rs := [6]) (by kernel_rfl) (by simp) ?_; refine List.forall_mem_cons.2 ⟨?_, fun _ h => by cases h⟩); refine stepL (o := { dst := some 122, op := Op.call { callee := Callee.value (Operand.func 101), args := #[Operand.tmp 118, Operand.tmp 119, Operand.tmp 120, Operand.tmp 121], argTypes := #[44, 93, 170, 26] }, type := 106, pos := "link.go:96", after := #[{ on := 2, ground := Ground.data }, { on := 3, ground := Ground.data }, { on := 4, ground := Ground.data }, { on := 5, ground := Ground.data }], guard := none }) rfl (fun K hK => ?_); go_simp; obtain ⟨sg, hsg⟩ : ∃ sg, segP p.er n 2 3 [2, 3] = sg := ⟨_, rfl⟩; have HSEG := segment_any p l n Av cv bl [2, 3] 2 3 (some ⟨g2, 0, none⟩) ([2, 3] : List Int).length wv (h1.keep hq1 hq1.size) (hl.keep hq1 hq1.size) HR.out H0.out (hBA.keep hq1 hq1.size) HAL.out ((hL1.s2).reads (size := 1) (n := ([2, 3] : List Int).length) rfl) trio_two (by omega); rw [hsg] at HSEG; refine HSEG.mono ?_; rintro e w8 ⟨A8, c8, rfl, hown8, hb8⟩; have hs8 := hown8.mono hq1.size; have hL2 := hL1.all hb8; have hq2 := hq1.trans (hb8.mono hq1.size); clear HSEG hL1 hq1 hown8 hb8; go_wp2_with fail; refine hK.out _ _ (HSS.out _ hL2.box hq2) (fun hHeld => ?_); (clear hK K; (try simp only [Act.put, List.setIfInBounds_toArray, List.set_cons_zero, List.set_cons_succ])); have hL3 := hL2.all ((Below.refl w8.heap.size w8).alloc (Nat.le_refl _) (.cells #[.int .i64 (sg.at_ : Nat), .slice A8 sg.bs.length c8, .int .i64 (sg.zeros : Nat), .bool sg.writes, .bool sg.works] 106)); have hq3 := hq2.alloc hq2.size (.cells #[.int .i64 (sg.at_ : Nat), .slice A8 sg.bs.length c8, .int .i64 (sg.zeros : Nat), .bool sg.writes, .bool sg.works] 106); have hs9 := hs8.alloc (.cells #[.int .i64 (sg.at_ : Nat), .slice A8 sg.bs.length c8, .int .i64 (sg.zeros : Nat), .bool sg.writes, .bool sg.works] 106); (refine wpAnyL_ready (rs := [7]) (by kernel_rfl) (by simp) ?_; refine List.forall_mem_cons.2 ⟨?_, fun _ h => by cases h⟩); refine stepL (o := { dst := some 123, op := Op.buildSlice 85 1 #[(0, Operand.tmp 122)], type := 85, pos := "link.go:96", after := #[{ on := 6, ground := Ground.data }], guard := none }) rfl (fun K hK => ?_); go_simp; refine hK.out _ _ (HSS.out _ hL3.box hq3) (fun hHeld => ?_); (clear hK K; (try simp only [Act.put, List.setIfInBounds_toArray, List.set_cons_zero, List.set_cons_succ])); (refine wpAnyL_ready (rs := [8]) (by kernel_rfl) (by simp) ?_; refine List.forall_mem_cons.2 ⟨?_, fun _ h => by cases h⟩); refine stepL (o := { dst := some 124, op := Op.call { callee := Callee.builtin Builtin.append, args := #[Operand.tmp 117, Operand.tmp 123], argTypes := #[85, 85] }, type := 85, pos := "link.go:96", after := #[{ on := 1, ground := Ground.data }, { on := 7, ground := Ground.data }, { on := 6, ground := Ground.chain }], guard := none }) rfl (fun K hK => ?_); refine step_append_lies _ rfl (.tmp 117) (.tmp 123) 85 rfl wr.heap.size 106 m0 _ 5 48 Try.underlying85 hm0 hm1 hm2 hm3 rfl (by decide) _ _ _ rfl hL3.row ⟨w8.heap.size, 0, none⟩ 1 1 [.int .i64 (sg.at_ : Nat), .slice A8 sg.bs.length c8, .int .i64 (sg.zeros : Nat), .bool sg.writes, .bool sg.works] rfl rfl ?c1 ?c2 (by omega) ?c3 ?c4 ?c5 _ rfl ?_; (case c1 => exact fun j u hu => cells_new j u hu); (case c2 => exact seg_one ⟨sg.at_, sg.bs, sg.zeros, sg.writes, sg.works, A8, c8⟩); (case c3 => (simp only [List.length_append, List.length_cons, List.length_nil]; unfold maxLen; omega)); (case c4 => (simp only [List.length_append, List.length_cons, List.length_nil]; omega)); (case c5 => have := hq2.size; simp; omega); intro g5 c5 w5 hown5 hg5 hat5 hlt5; have hq5 := below_grow hq3 hL3.row hg5 hq3.size; have b0 := (hL3.grow hg5).1; refine hK.out _ _ (HSS.out _ b0 hq5) (fun hHeld => ?_); (clear hK K; (try simp only [Act.put, List.setIfInBounds_toArray, List.set_cons_zero, List.set_cons_succ])); (refine wpAnyL_take (i := 9) (oi := { dst := some 125, op := Op.fieldAddr 87 (Operand.tmp 20) 1, type := 0, pos := "link.go:96", after := #[{ on := 0, ground := Ground.phase }, { on := 1, ground := Ground.phase }, { on := 2, ground := Ground.phase }, { on := 3, ground := Ground.phase }, { on := 4, ground := Ground.phase }, { on := 5, ground := Ground.phase }, { on := 6, ground := Ground.phase }, { on := 7, ground := Ground.phase }, { on := 8, ground := Ground.phase }], guard := none }) (v := ?_) rfl (by kernel_rfl) (by kernel_rfl) (by kernel_rfl) (fun _ _ _ h => h) (Or.inl ⟨by rfl, ?_⟩) (by assumption) (by kernel_rfl) (by rfl) ?_; rotate_left; (focus (intro w hSw; (try dsimp only at hSw); go_simp; (try with_reducible rfl))); (try simp only [Act.put, List.setIfInBounds_toArray, List.set_cons_zero, List.set_cons_succ])); have zs1 := b0.cell 1; have zf1 := b0.frozen 1; refine wpAnyL_ready (rs := [10]) (by kernel_rfl) (by simp) ?_; refine List.forall_mem_cons.2 ⟨stepLate (o := { dst := none, op := Op.store 85 (Operand.tmp 125) (Operand.tmp 124), type := 0, pos := "link.go:96", after := #[{ on := 9, ground := Ground.data }, { on := 8, ground := Ground.data }, { on := 8, ground := Ground.chain }, { on := 0, ground := Ground.phase }, { on := 1, ground := Ground.phase }, { on := 2, ground := Ground.phase }, { on := 3, ground := Ground.phase }, { on := 4, ground := Ground.phase }, { on := 5, ground := Ground.phase }, { on := 6, ground := Ground.phase }, { on := 7, ground := Ground.phase }, { on := 8, ground := Ground.phase }], guard := none }) rfl (by rfl) (fun K hK => ?_), fun _ h => by cases h⟩; go_simp; refine hK.out _ _ ?_; (clear hK K; (try simp only [Act.put, List.setIfInBounds_toArray, List.set_cons_zero, List.set_cons_succ])); have hL : LKS (w5.setCell ⟨gO, 1, none⟩ (.slice (some ⟨g5, 0, none⟩) 2 c5)) wr.heap.size gO g1 g2 g3 bg (some ⟨g5, 0, none⟩) c5 ([s1] ++ [⟨sg.at_, sg.bs, sg.zeros, sg.writes, sg.works, A8, c8⟩]) := hL3.push (s := ⟨sg.at_, sg.bs, sg.zeros, sg.writes, sg.works, A8, c8⟩) hs9 hown5 hg5; have hq := hq5.setCell (p := ⟨gO, 1, none⟩) hgO1 (.slice (some ⟨g5, 0, none⟩) 2 c5); refine wpAnyL_done (by kernel_rfl) ?_ _; obtain ⟨W9, hW9⟩ : ∃ W, W = w5.setCell ⟨gO, 1, none⟩ (.slice (some ⟨g5, 0, none⟩) 2 c5) := ⟨_, rfl⟩; rw [← hW9] at hL hq ⊢; clear hW9 hL2 hL3 hq2 hq3 hs8 hs9 hown5 hg5 hat5 hlt5 hq5 b0 zs1 zf1 HSS)
            obtain ⟨s2, hs2⟩ : ∃ s : Seg, s = ⟨sg.at_, sg.bs, sg.zeros, sg.writes, sg.works, A8, c8⟩ := ⟨_, rfl⟩
            have HE2 : Hid (s2.er = (segP p.er n 2 3 [2, 3]).seg) := by show _ = _; rw [hs2, hsg]; rfl
            obtain ⟨X2, hX2⟩ : ∃ a : Option Addr, a = some ⟨g5, 0, none⟩ := ⟨_, rfl⟩
            obtain ⟨d2, hd2⟩ : ∃ x, x = c5 := ⟨_, rfl⟩
            replace hL : LKS W9 wr.heap.size gO g1 g2 g3 bg X2 d2 [s1, s2] := by rw [hX2, hd2, hs2]; exact hL
            clear hs2 hX2 hd2 hsg
            go_wp2_with fail
            rw [rounds_succ]
            go_upto_region 27 with (fail)
            (have HSS : Hid (∀ wv, Blk wv gO 87 #[.int .i64 bg, .slice X2 ([s1, s2] : List Seg).length d2] → Below wr.heap.size wr wv → (fun w' => w'.cell? ⟨gO, 1, none⟩ = some (.slice X2 ([s1, s2] : List Seg).length d2) ∧ w'.cell? ⟨w.heap.size, 0, none⟩ = some (.slice p.fa p.frs.length p.fc) ∧ w'.cell? ⟨w.heap.size, 1, none⟩ = some (.slice p.da p.dfs.length p.dc) ∧ w'.cell? ⟨gL, 0, none⟩ = some (.slice l.fa p.frs.length l.fc) ∧ w'.cell? ⟨gL, 1, none⟩ = some (.slice l.na (layEnd p.er n).ns.length l.nc) ∧ w'.cell? ⟨gL, 2, none⟩ = some (.slice l.ca (layEnd p.er n).cs.length l.cc) ∧ w'.cell? ⟨gL, 3, none⟩ = some (.int .i64 0) ∧ w'.cell? ⟨gL, 4, none⟩ = some (.int .i64 (secFrom p.er.frs n 1 : Nat)) ∧ w'.cell? ⟨gL, 5, none⟩ = some (.int .i64 (secFrom p.er.frs n 2 : Nat)) ∧ w'.cell? ⟨gL, 6, none⟩ = some (.int .i64 (secFrom p.er.frs n 3 : Nat)) ∧ w'.cell? ⟨gL, 7, none⟩ = some (.int .i64 (secFrom p.er.frs n 4 : Nat)) ∧ w'.cell? ⟨gL, 8, none⟩ = some (.int .i64 (secFrom p.er.frs n 5 : Nat)) ∧ w'.cell? ⟨gL, 9, none⟩ = some (.int .i64 0) ∧ w'.cell? ⟨gL, 10, none⟩ = some (.int .i64 (toN p.er n 1 : Nat)) ∧ w'.cell? ⟨gL, 11, none⟩ = some (.int .i64 (toN p.er n 2 : Nat)) ∧ w'.cell? ⟨gL, 12, none⟩ = some (.int .i64 (toN p.er n 3 : Nat)) ∧ w'.cell? ⟨gL, 13, none⟩ = some (.int .i64 (toN p.er n 4 : Nat)) ∧ w'.cell? ⟨gL, 14, none⟩ = some (.int .i64 (toN p.er n 5 : Nat))) wv) := (fun wv hx hq => ⟨hx.cell 1, (kP.all hq).cell 0, (kP.all hq).cell 1, (kL.all hq).cell 0, (kL.all hq).cell 1, (kL.all hq).cell 2, (kL.all hq).cell 3, (kL.all hq).cell 4, (kL.all hq).cell 5, (kL.all hq).cell 6, (kL.all hq).cell 7, (kL.all hq).cell 8, (kL.all hq).cell 9, (kL.all hq).cell 10, (kL.all hq).cell 11, (kL.all hq).cell 12, (kL.all hq).cell 13, (kL.all hq).cell 14⟩); have hL1 := hL.all ((Below.refl W9.heap.size W9).drew); have hq1 := hq.drew; refine wp_region_late (S := (fun w' => w'.cell? ⟨gO, 1, none⟩ = some (.slice X2 ([s1, s2] : List Seg).length d2) ∧ w'.cell? ⟨w.heap.size, 0, none⟩ = some (.slice p.fa p.frs.length p.fc) ∧ w'.cell? ⟨w.heap.size, 1, none⟩ = some (.slice p.da p.dfs.length p.dc) ∧ w'.cell? ⟨gL, 0, none⟩ = some (.slice l.fa p.frs.length l.fc) ∧ w'.cell? ⟨gL, 1, none⟩ = some (.slice l.na (layEnd p.er n).ns.length l.nc) ∧ w'.cell? ⟨gL, 2, none⟩ = some (.slice l.ca (layEnd p.er n).cs.length l.cc) ∧ w'.cell? ⟨gL, 3, none⟩ = some (.int .i64 0) ∧ w'.cell? ⟨gL, 4, none⟩ = some (.int .i64 (secFrom p.er.frs n 1 : Nat)) ∧ w'.cell? ⟨gL, 5, none⟩ = some (.int .i64 (secFrom p.er.frs n 2 : Nat)) ∧ w'.cell? ⟨gL, 6, none⟩ = some (.int .i64 (secFrom p.er.frs n 3 : Nat)) ∧ w'.cell? ⟨gL, 7, none⟩ = some (.int .i64 (secFrom p.er.frs n 4 : Nat)) ∧ w'.cell? ⟨gL, 8, none⟩ = some (.int .i64 (secFrom p.er.frs n 5 : Nat)) ∧ w'.cell? ⟨gL, 9, none⟩ = some (.int .i64 0) ∧ w'.cell? ⟨gL, 10, none⟩ = some (.int .i64 (toN p.er n 1 : Nat)) ∧ w'.cell? ⟨gL, 11, none⟩ = some (.int .i64 (toN p.er n 2 : Nat)) ∧ w'.cell? ⟨gL, 12, none⟩ = some (.int .i64 (toN p.er n 3 : Nat)) ∧ w'.cell? ⟨gL, 13, none⟩ = some (.int .i64 (toN p.er n 4 : Nat)) ∧ w'.cell? ⟨gL, 14, none⟩ = some (.int .i64 (toN p.er n 5 : Nat)))) [10] (by kernel_rfl) (HSS.out _ hL1.box hq1) (fun hHeld => ?_); obtain ⟨wv, hwv⟩ : ∃ x, x = W9.drew := ⟨_, rfl⟩; rw [← hwv] at hL1 hq1 hHeld ⊢; clear hwv hL hq; (refine wpAnyL_take (i := 0) (oi := { dst := some 116, op := Op.fieldAddr 87 (Operand.tmp 20) 1, type := 0, pos := "link.go:96", after := #[], guard := none }) (v := ?_) rfl (by kernel_rfl) (by kernel_rfl) (by kernel_rfl) (fun _ _ _ h => h) (Or.inl ⟨by rfl, ?_⟩) (by assumption) (by kernel_rfl) (by rfl) ?_; rotate_left; (focus (intro w hSw; (try dsimp only at hSw); go_simp; (try with_reducible rfl))); (try simp only [Act.put, List.setIfInBounds_toArray, List.set_cons_zero, List.set_cons_succ])); (refine wpAnyL_take (i := 1) (oi := { dst := some 117, op := Op.load 85 (Operand.tmp 116), type := 85, pos := "link.go:96", after := #[{ on := 0, ground := Ground.data }], guard := none }) (v := ?_) rfl (by kernel_rfl) (by kernel_rfl) (by kernel_rfl) (fun _ _ _ h => h) (Or.inl ⟨by rfl, ?_⟩) (by assumption) (by kernel_rfl) (by rfl) ?_; rotate_left; (focus (intro w hSw; (try dsimp only at hSw); go_simp; (try with_reducible rfl))); (try simp only [Act.put, List.setIfInBounds_toArray, List.set_cons_zero, List.set_cons_succ])); (refine wpAnyL_take (i := 2) (oi := { dst := some 118, op := Op.load 44 (Operand.tmp 3), type := 44, pos := "link.go:96", after := #[], guard := none }) (v := ?_) rfl (by kernel_rfl) (by kernel_rfl) (by kernel_rfl) (fun _ _ _ h => h) (Or.inl ⟨by rfl, ?_⟩) (by assumption) (by kernel_rfl) (by rfl) ?_; rotate_left; (focus (intro w hSw; (try dsimp only at hSw); go_simp; (try with_reducible rfl))); (try simp only [Act.put, List.setIfInBounds_toArray, List.set_cons_zero, List.set_cons_succ])); (refine wpAnyL_take (i := 3) (oi := { dst := some 119, op := Op.load 93 (Operand.tmp 11), type := 93, pos := "link.go:96", after := #[], guard := none }) (v := ?_) rfl (by kernel_rfl) (by kernel_rfl) (by kernel_rfl) (fun _ _ _ h => h) (Or.inl ⟨by rfl, ?_⟩) (by assumption) (by kernel_rfl) (by rfl) ?_; rotate_left; (focus (intro w hSw; (try dsimp only at hSw); go_simp; (try with_reducible rfl))); (try simp only [Act.put, List.setIfInBounds_toArray, List.set_cons_zero, List.set_cons_succ])); (refine wpAnyL_take (i := 4) (oi := { dst := some 120, op := Op.move (Operand.tmp 16), type := 170, pos := "link.go:96", after := #[], guard := none }) (v := ?_) rfl (by kernel_rfl) (by kernel_rfl) (by kernel_rfl) (fun _ _ _ h => h) (Or.inl ⟨by rfl, ?_⟩) (by assumption) (by kernel_rfl) (by rfl) ?_; rotate_left; (focus (intro w hSw; (try dsimp only at hSw); go_simp; (try with_reducible rfl))); (try simp only [Act.put, List.setIfInBounds_toArray, List.set_cons_zero, List.set_cons_succ])); (refine wpAnyL_take (i := 5) (oi := { dst := some 121, op := Op.move (Operand.tmp 22), type := 26, pos := "link.go:96", after := #[], guard := none }) (v := ?_) rfl (by kernel_rfl) (by kernel_rfl) (by kernel_rfl) (fun _ _ _ h => h) (Or.inl ⟨by rfl, ?_⟩) (by assumption) (by kernel_rfl) (by rfl) ?_; rotate_left; (focus (intro w hSw; (try dsimp only at hSw); go_simp; (try with_reducible rfl))); (try simp only [Act.put, List.setIfInBounds_toArray, List.set_cons_zero, List.set_cons_succ])); (refine wpAnyL_ready (rs := [6]) (by kernel_rfl) (by simp) ?_; refine List.forall_mem_cons.2 ⟨?_, fun _ h => by cases h⟩); refine stepL (o := { dst := some 122, op := Op.call { callee := Callee.value (Operand.func 101), args := #[Operand.tmp 118, Operand.tmp 119, Operand.tmp 120, Operand.tmp 121], argTypes := #[44, 93, 170, 26] }, type := 106, pos := "link.go:96", after := #[{ on := 2, ground := Ground.data }, { on := 3, ground := Ground.data }, { on := 4, ground := Ground.data }, { on := 5, ground := Ground.data }], guard := none }) rfl (fun K hK => ?_); go_simp; obtain ⟨sg, hsg⟩ : ∃ sg, segP p.er n 4 5 [4, 5] = sg := ⟨_, rfl⟩; have HSEG := segment_any p l n Av cv bl [4, 5] 4 5 (some ⟨g3, 0, none⟩) ([4, 5] : List Int).length wv (h1.keep hq1 hq1.size) (hl.keep hq1 hq1.size) HR.out H0.out (hBA.keep hq1 hq1.size) HAL.out ((hL1.s3).reads (size := 1) (n := ([4, 5] : List Int).length) rfl) trio_three (by omega); rw [hsg] at HSEG; refine HSEG.mono ?_; rintro e w8 ⟨A8, c8, rfl, hown8, hb8⟩; have hs8 := hown8.mono hq1.size; have hL2 := hL1.all hb8; have hq2 := hq1.trans (hb8.mono hq1.size); clear HSEG hL1 hq1 hown8 hb8; go_wp2_with fail; refine hK.out _ _ (HSS.out _ hL2.box hq2) (fun hHeld => ?_); (clear hK K; (try simp only [Act.put, List.setIfInBounds_toArray, List.set_cons_zero, List.set_cons_succ])); have hL3 := hL2.all ((Below.refl w8.heap.size w8).alloc (Nat.le_refl _) (.cells #[.int .i64 (sg.at_ : Nat), .slice A8 sg.bs.length c8, .int .i64 (sg.zeros : Nat), .bool sg.writes, .bool sg.works] 106)); have hq3 := hq2.alloc hq2.size (.cells #[.int .i64 (sg.at_ : Nat), .slice A8 sg.bs.length c8, .int .i64 (sg.zeros : Nat), .bool sg.writes, .bool sg.works] 106); have hs9 := hs8.alloc (.cells #[.int .i64 (sg.at_ : Nat), .slice A8 sg.bs.length c8, .int .i64 (sg.zeros : Nat), .bool sg.writes, .bool sg.works] 106); (refine wpAnyL_ready (rs := [7]) (by kernel_rfl) (by simp) ?_; refine List.forall_mem_cons.2 ⟨?_, fun _ h => by cases h⟩); refine stepL (o := { dst := some 123, op := Op.buildSlice 85 1 #[(0, Operand.tmp 122)], type := 85, pos := "link.go:96", after := #[{ on := 6, ground := Ground.data }], guard := none }) rfl (fun K hK => ?_); go_simp; refine hK.out _ _ (HSS.out _ hL3.box hq3) (fun hHeld => ?_); (clear hK K; (try simp only [Act.put, List.setIfInBounds_toArray, List.set_cons_zero, List.set_cons_succ])); (refine wpAnyL_ready (rs := [8]) (by kernel_rfl) (by simp) ?_; refine List.forall_mem_cons.2 ⟨?_, fun _ h => by cases h⟩); refine stepL (o := { dst := some 124, op := Op.call { callee := Callee.builtin Builtin.append, args := #[Operand.tmp 117, Operand.tmp 123], argTypes := #[85, 85] }, type := 85, pos := "link.go:96", after := #[{ on := 1, ground := Ground.data }, { on := 7, ground := Ground.data }, { on := 6, ground := Ground.chain }], guard := none }) rfl (fun K hK => ?_); refine step_append_lies _ rfl (.tmp 117) (.tmp 123) 85 rfl wr.heap.size 106 m0 _ 5 48 Try.underlying85 hm0 hm1 hm2 hm3 rfl (by decide) _ _ _ rfl hL3.row ⟨w8.heap.size, 0, none⟩ 1 1 [.int .i64 (sg.at_ : Nat), .slice A8 sg.bs.length c8, .int .i64 (sg.zeros : Nat), .bool sg.writes, .bool sg.works] rfl rfl ?c1 ?c2 (by omega) ?c3 ?c4 ?c5 _ rfl ?_; (case c1 => exact fun j u hu => cells_new j u hu); (case c2 => exact seg_one ⟨sg.at_, sg.bs, sg.zeros, sg.writes, sg.works, A8, c8⟩); (case c3 => (simp only [List.length_append, List.length_cons, List.length_nil]; unfold maxLen; omega)); (case c4 => (simp only [List.length_append, List.length_cons, List.length_nil]; omega)); (case c5 => have := hq2.size; simp; omega); intro g5 c5 w5 hown5 hg5 hat5 hlt5; have hq5 := below_grow hq3 hL3.row hg5 hq3.size; have b0 := (hL3.grow hg5).1; refine hK.out _ _ (HSS.out _ b0 hq5) (fun hHeld => ?_); (clear hK K; (try simp only [Act.put, List.setIfInBounds_toArray, List.set_cons_zero, List.set_cons_succ])); (refine wpAnyL_take (i := 9) (oi := { dst := some 125, op := Op.fieldAddr 87 (Operand.tmp 20) 1, type := 0, pos := "link.go:96", after := #[{ on := 0, ground := Ground.phase }, { on := 1, ground := Ground.phase }, { on := 2, ground := Ground.phase }, { on := 3, ground := Ground.phase }, { on := 4, ground := Ground.phase }, { on := 5, ground := Ground.phase }, { on := 6, ground := Ground.phase }, { on := 7, ground := Ground.phase }, { on := 8, ground := Ground.phase }], guard := none }) (v := ?_) rfl (by kernel_rfl) (by kernel_rfl) (by kernel_rfl) (fun _ _ _ h => h) (Or.inl ⟨by rfl, ?_⟩) (by assumption) (by kernel_rfl) (by rfl) ?_; rotate_left; (focus (intro w hSw; (try dsimp only at hSw); go_simp; (try with_reducible rfl))); (try simp only [Act.put, List.setIfInBounds_toArray, List.set_cons_zero, List.set_cons_succ])); have zs1 := b0.cell 1; have zf1 := b0.frozen 1; refine wpAnyL_ready (rs := [10]) (by kernel_rfl) (by simp) ?_; refine List.forall_mem_cons.2 ⟨stepLate (o := { dst := none, op := Op.store 85 (Operand.tmp 125) (Operand.tmp 124), type := 0, pos := "link.go:96", after := #[{ on := 9, ground := Ground.data }, { on := 8, ground := Ground.data }, { on := 8, ground := Ground.chain }, { on := 0, ground := Ground.phase }, { on := 1, ground := Ground.phase }, { on := 2, ground := Ground.phase }, { on := 3, ground := Ground.phase }, { on := 4, ground := Ground.phase }, { on := 5, ground := Ground.phase }, { on := 6, ground := Ground.phase }, { on := 7, ground := Ground.phase }, { on := 8, ground := Ground.phase }], guard := none }) rfl (by rfl) (fun K hK => ?_), fun _ h => by cases h⟩; go_simp; refine hK.out _ _ ?_; (clear hK K; (try simp only [Act.put, List.setIfInBounds_toArray, List.set_cons_zero, List.set_cons_succ])); have hL : LKS (w5.setCell ⟨gO, 1, none⟩ (.slice (some ⟨g5, 0, none⟩) 3 c5)) wr.heap.size gO g1 g2 g3 bg (some ⟨g5, 0, none⟩) c5 ([s1, s2] ++ [⟨sg.at_, sg.bs, sg.zeros, sg.writes, sg.works, A8, c8⟩]) := hL3.push (s := ⟨sg.at_, sg.bs, sg.zeros, sg.writes, sg.works, A8, c8⟩) hs9 hown5 hg5; have hq := hq5.setCell (p := ⟨gO, 1, none⟩) hgO1 (.slice (some ⟨g5, 0, none⟩) 3 c5); refine wpAnyL_done (by kernel_rfl) ?_ _; obtain ⟨W9, hW9⟩ : ∃ W, W = w5.setCell ⟨gO, 1, none⟩ (.slice (some ⟨g5, 0, none⟩) 3 c5) := ⟨_, rfl⟩; rw [← hW9] at hL hq ⊢; clear hW9 hL2 hL3 hq2 hq3 hs8 hs9 hown5 hg5 hat5 hlt5 hq5 b0 zs1 zf1 HSS)
            obtain ⟨s3, hs3⟩ : ∃ s : Seg, s = ⟨sg.at_, sg.bs, sg.zeros, sg.writes, sg.works, A8, c8⟩ := ⟨_, rfl⟩
            have HE3 : Hid (s3.er = (segP p.er n 4 5 [4, 5]).seg) := by show _ = _; rw [hs3, hsg]; rfl
            obtain ⟨X3, hX3⟩ : ∃ a : Option Addr, a = some ⟨g5, 0, none⟩ := ⟨_, rfl⟩
            obtain ⟨d3, hd3⟩ : ∃ x, x = c5 := ⟨_, rfl⟩
            replace hL : LKS W9 wr.heap.size gO g1 g2 g3 bg X3 d3 [s1, s2, s3] := by rw [hX3, hd3, hs3]; exact hL
            clear hs3 hX3 hd3 hsg
            go_wp2_with fail
            rw [rounds_succ]
            have kI9 := kI.all hq
            have hne : gO ≠ gI := Nat.ne_of_gt (Nat.lt_of_lt_of_le kI.lt hgO1)
            have o0 := hL.box.cell 0
            have o1 := hL.box.cell 1
            have i0' := kI9.cell 0
            have i1 := kI9.cell 1
            have f0 := kI9.frozen 0
            have f1 := kI9.frozen 1
            have kZ := (kI9.set_ 0 (.int .i64 bg)).set_ 1 (.slice X3 3 d3)
            simp only [List.setIfInBounds_toArray, List.set_cons_zero, List.set_cons_succ] at kZ
            have hB9 := ((hb.trans (hq.mono hb.size)).setCell (p := ⟨gI, 0, none⟩) hgI (.int .i64 bg)).setCell (p := ⟨gI, 1, none⟩) hgI (.slice X3 3 d3)
            have hL9 := (hL.img kI9 hne 0 (.int .i64 bg)).img (kI9.set_ 0 (.int .i64 bg)) hne 1 (.slice X3 3 d3)
            go_wp2_with fail
            obtain ⟨WZ, hWZ⟩ : ∃ W, W = (W9.setCell ⟨gI, 0, none⟩ (.int .i64 bg)).setCell ⟨gI, 1, none⟩ (.slice X3 3 d3) := ⟨_, rfl⟩
            rw [← hWZ] at kZ hB9 hL9 ⊢
            clear hWZ
            have r0 := kZ.cell 0
            have r1 := kZ.cell 1
            refine bodyPost_ret (v := .tuple #[.agg #[.int .i64 bg, .slice X3 3 d3], .slice none 0 0, .int .i64 0]) (by simp [results, Try.results41, go_sem, r0, r1]) rfl ?_
            refine ⟨X3, d3, [s1, s2, s3], none, 0, by rw [HP.out, HBG.out]; rfl, ?_, hL9.at_, by rw [HP.out]; exact Reads.none_, by rw [HP.out]; exact Nat.le_refl _, hB9⟩
            rw [HP.out]
            simp only [List.map_cons, List.map_nil, HE1.out, HE2.out, HE3.out]
          · have q0 : decide (0 < fl1.length) = true := decide_eq_true hz
            have q1 : decide ((0 : Int) < (fl1.length : Int)) = true := decide_eq_true (by omega)
            have HP := Lib.hid (linkP_told HE.out (by rw [HLF.out]; intro e; rw [e] at hz; simp at hz))
            clear hz hlen hfe hfk
            have kI := kI.all hbr
            have i0' := kI.cell 0
            have i1 := kI.cell 1
            have f0 := kI.frozen 0
            have f1 := kI.frozen 1
            have kZ := (kI.set_ 0 (.int .i64 0)).set_ 1 (.slice none 0 0)
            simp only [List.setIfInBounds_toArray, List.set_cons_zero, List.set_cons_succ] at kZ
            have hB9 := ((hb.trans (hbr.mono hb.size)).setCell (p := ⟨gI, 0, none⟩) hgI (.int .i64 0)).setCell (p := ⟨gI, 1, none⟩) hgI (.slice none 0 0)
            have hUI := own_setCell (p := ⟨gI, 1, none⟩) (own_setCell (p := ⟨gI, 0, none⟩) hU (own_blk_ne hU kI (by decide)) (.int .i64 0)) (own_blk_ne hU kI (by decide)) (.slice none 0 0)
            go_wp2_with fail
            have r0 := kZ.cell 0
            have r1 := kZ.cell 1
            refine bodyPost_ret (v := .tuple #[.agg #[.int .i64 0, .slice none 0 0], .slice Au fl1.length cu, .int .i64 0]) (by simp [results, Try.results41, go_sem, r0, r1]) rfl ?_
            exact ⟨none, 0, [], Au, cu, by rw [HP.out, HLF.out]; rfl, by rw [HP.out]; rfl, segsAt_nil _ _, by rw [HP.out, HLF.out]; exact Reads.of_own hUI, by rw [HP.out, HLF.out]; exact hu1, hB9⟩
theorem link_any (p : PtM) (base : Int) (entry : ByteArray) (w : World) (h : p.At w w.heap.size) :
    Calls Try.prog 41 #[.agg #[.slice p.fa p.frs.length p.fc, .slice p.da p.dfs.length p.dc], .int .i64 base, .string entry] w (LinkIs w (linkP p.er base entry)) := by
  by_cases hE : linkE p.er base entry = 0
  · obtain ⟨_, h0, _⟩ := layE_zero (linkE_zero hE).2.2
    obtain ⟨n, rfl⟩ : ∃ n : Nat, base = n := ⟨base.toNat, by omega⟩
    exact link_ok p n entry w h hE
  · exact link_bad p base entry w h hE
end Go.Proofs.Ytbhjdinjoonngaa
