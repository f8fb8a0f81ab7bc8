/- archive.Check, state.take, state.helps: what they compute. -/
import Derived.Test.YtmlomnhjbmocfaaDoorArcM
import Derived.IntWalk
set_option linter.all false
namespace Go.Proofs.YtmlomnhjbmocfaaDoor
open Go.RowKit

/-! ### archive.Check -/
set_option maxHeartbeats 8000000 in
set_option maxRecDepth 100000 in
theorem arcCheck_any (A : Option Addr) (c : Nat) (l : List ItM) (w : World) (h : ItsAt w w.heap.size A l) (hlm : l.length ≤ 9223372036854775807) :
    Calls Tryd.prog 17 #[.slice A l.length c] w fun e w' => e = .returned (.int .i64 (ckItems (l.map ItM.er))) ∧ Below w.heap.size w w' := by
  have hrow := h.row
  have HE := Lib.hid h.each
  clear h
  by_cases h12 : 12 < l.length
  · have HM := Lib.hid (ckItems_many (l := l.map ItM.er) (by rw [List.length_map]; exact h12))
    have q1 : decide ((12 : Int) < (l.length : Int)) = true := decide_eq_true (by omega)
    have q2 : decide (12 < l.length) = true := decide_eq_true h12
    clear h12
    go_enter Tryd.func17, Tryd.ntmps17
    go_wp2
    go_ret
    exact ⟨ret_int (by rw [HM.out]), Below.refl _ _⟩
  · have HF := Lib.hid (ckItems_few (l := l.map ItM.er) (by rw [List.length_map]; exact h12))
    have q1 : decide ((12 : Int) < (l.length : Int)) = false := decide_eq_false (by omega)
    have q2 : decide (12 < l.length) = false := decide_eq_false h12
    clear h12
    go_enter Tryd.func17, Tryd.ntmps17
    go_wp2_with fail
    go_loopw [13] (fun i wr => ∃ k : Nat, k ≤ l.length ∧ i = .int .i64 k ∧ Hid (firstBad ((l.map ItM.er).map ckItem) = firstBad (((l.map ItM.er).map ckItem).drop k)) ∧ Below w.heap.size w wr) (fun i _ => l.length - (intOf i).toNat)
    case atStart => exact ⟨0, Nat.zero_le _, rfl, Lib.hid rfl, Below.refl _ _⟩
    case round =>
      obtain ⟨k, hk, rfl, hfb, hb⟩ := hrel
      by_cases hlt : k < l.length
      · obtain ⟨x, hx⟩ : ∃ x, l[k]? = some x := ⟨_, List.getElem?_eq_getElem hlt⟩
        obtain ⟨b, off, rfl, bl, c0, c1⟩ := it_get (hrow.below hb) hx
        have hg := (HE.out x (List.mem_of_getElem? hx)).keep hb hb.size
        have hck : ((l.map ItM.er).map ckItem)[k]? = some (ckItem x.er) := by rw [List.getElem?_map, List.getElem?_map, hx]; rfl
        have HCK := Lib.hid hck
        clear hx hck
        go_upto_region 6 with (fail)
        have kX := Blk.new wr 85 #[.bool x.arch, .slice x.pa x.ps.length x.pc]
        have hbx : Below wr.heap.size wr (wr.alloc (.cells #[.bool x.arch, .slice x.pa x.ps.length x.pc] 85)) := by (repeat' (first | exact Below.refl _ _ | assumption | refine Below.setCell ?_ (by first | omega | exact Below.size (by assumption) | (simp; done) | (simp; omega)) _ | refine Below.alloc ?_ (by first | omega | exact Below.size (by assumption) | (simp; done) | (simp; omega)) _ | refine Below.drew ?_ | refine below_drewN ?_ _))
        replace hg := hg.keep hbx hbx.size
        replace hb := hb.trans (hbx.mono hb.size)
        obtain ⟨gX, hgX⟩ : ∃ g, g = wr.heap.size := ⟨_, rfl⟩
        obtain ⟨W, hW⟩ : ∃ W, W = wr.alloc (.cells #[.bool x.arch, .slice x.pa x.ps.length x.pc] 85) := ⟨_, rfl⟩
        rw [← hgX] at kX ⊢
        rw [← hW] at kX hg hb ⊢
        clear hW hgX hbx c0 c1
        have x0 := kX.cell 0
        have x1 := kX.cell 1
        by_cases h8 : 8 < x.ps.length
        · have HR := Lib.hid (hfb.out.trans (firstBad_drop (HCK.out.trans (by rw [ckItem_many (by simpa [ItM.er] using h8)])) (by decide : (2 : Int) ≠ 0)))
          have q3 : decide ((8 : Int) < (x.ps.length : Int)) = true := decide_eq_true (by omega)
          have q4 : decide (8 < x.ps.length) = true := decide_eq_true h8
          clear h8
          go_wp2
          go_ret
          exact ⟨ret_int (by rw [HF.out, HR.out]), hb⟩
        · have q3 : decide ((8 : Int) < (x.ps.length : Int)) = false := decide_eq_false (by omega)
          have q4 : decide (8 < x.ps.length) = false := decide_eq_false h8
          by_cases h1 : x.arch = false ∧ x.ps.length ≠ 1
          · have HR := Lib.hid (hfb.out.trans (firstBad_drop (HCK.out.trans (by rw [ckItem_form (by simpa [ItM.er] using h8) h1.1 (by simpa [ItM.er] using h1.2)])) (by decide : (4 : Int) ≠ 0)))
            have q5 : ((x.ps.length : Int) != 1) = true := by simp; omega
            rw [h1.1] at x0
            clear h8 h1
            go_wp2
            go_ret
            exact ⟨ret_int (by rw [HF.out, HR.out]), hb⟩
          · have HP := Lib.hid (ckItem_parts (x := x.er) (by simpa [ItM.er] using h8) (by simpa [ItM.er] using h1))
            have h8' : x.ps.length ≤ 8 := by omega
            obtain ⟨ar, har⟩ : ∃ a, x.arch = a := ⟨_, rfl⟩
            rw [har] at h1 x0
            have HAR := Lib.hid har
            clear h8 har
            have hprow := hg.ps.row
            have HG := Lib.hid hg.ps.each
            have HB := Lib.hid hb
            clear hg
            obtain ⟨q6, hq6⟩ : ∃ t, t = ((x.ps.length : Int) != 1) := ⟨_, rfl⟩
            have q7 : (!ar && q6) = false := by
              rcases ar with _ | _
              · have : x.ps.length = 1 := by
                  by_cases e : x.ps.length = 1
                  · exact e
                  · exact absurd ⟨rfl, e⟩ h1
                rw [hq6, this]; rfl
              · rfl
            clear h1
            rcases ar with _ | _
            · have q8 : ((x.ps.length : Int) != 1) = false := by
                rw [← hq6]; simpa using q7
              clear hq6 q7
              (go_wp2_with fail; clear x0 x1; go_loopw [33] (fun i wx => ∃ j : Nat, j ≤ x.ps.length ∧ i = .int .i64 j ∧ Hid (firstBad ((x.ps.map PtM.er).map ckPart) = firstBad (((x.ps.map PtM.er).map ckPart).drop j)) ∧ Below W.heap.size W wx) (fun i _ => x.ps.length - (intOf i).toNat); (case atStart => exact ⟨0, Nat.zero_le _, rfl, Lib.hid rfl, Below.refl _ _⟩); (case round => clear hb; obtain ⟨j, hj, rfl, hfj, hb⟩ := hrel; by_cases hjl : j < x.ps.length; (focus (obtain ⟨p, hpj⟩ : ∃ p, x.ps[j]? = some p := ⟨_, List.getElem?_eq_getElem hjl⟩; obtain ⟨b', off', hxa, bl', d0, d1⟩ := pt_get (hprow.below hb) hpj; have hpA := (HG.out p (List.mem_of_getElem? hpj)).keep hb hb.size; have hcj : ((x.ps.map PtM.er).map ckPart)[j]? = some (ckPart p.er) := (by rw [List.getElem?_map, List.getElem?_map, hpj]; rfl); have HCJ := Lib.hid hcj; have hs0 : Below wr.heap.size wr (wr.alloc (.cells #[.slice (p).fa (p).frs.length (p).fc, .slice (p).da (p).dfs.length (p).dc] 25)) := (by (repeat' (first | exact Below.refl _ _ | assumption | refine Below.setCell ?_ (by first | omega | exact Below.size (by assumption) | (simp; done) | (simp; omega)) _ | refine Below.alloc ?_ (by first | omega | exact Below.size (by assumption) | (simp; done) | (simp; omega)) _ | refine Below.drew ?_ | refine below_drewN ?_ _))); rw [hxa]; clear hpj hcj hxa; go_wp2_with fail; refine (check_any p _ (hpA.all hs0)).mono ?_; rintro e w2 ⟨rfl, hb2⟩; have hb3 := hb.trans ((hs0.trans (hb2.mono hs0.size)).mono hb.size); clear d0 d1 hb2 hs0; obtain ⟨n, hn⟩ : ∃ n, ckPart p.er = n := ⟨_, rfl⟩; rw [hn] at HCJ ⊢; clear hn; by_cases hn0 : n = 0; (focus (subst hn0; have hfj2 : Hid (firstBad ((x.ps.map PtM.er).map ckPart) = firstBad (((x.ps.map PtM.er).map ckPart).drop (j + 1))) := hfj.out.trans (firstBad_next HCJ.out); go_wp2; go_roundw; (case rel => exact ⟨j + 1, by omega, by go_num, hfj2, hb3⟩); (case measure => simp [intOf]; omega))); (focus (have HR := Lib.hid (hfb.out.trans (firstBad_drop (HCK.out.trans (by rw [HP.out]; exact congrArg some (hfj.out.trans (firstBad_drop HCJ.out hn0)))) hn0)); have t1 : (n != 0) = true := (by simpa using hn0); clear hn0; go_wp2; go_ret; exact ⟨ret_int (by rw [HF.out, HR.out]), HB.out.trans (hb3.mono HB.out.size)⟩)))); (focus (obtain rfl : j = x.ps.length := (by omega); have HN : Hid (firstBad ((l.map ItM.er).map ckItem) = firstBad (((l.map ItM.er).map ckItem).drop (k + 1))) := hfb.out.trans (firstBad_next (HCK.out.trans (by rw [HP.out]; exact congrArg some (hfj.out.trans (firstBad_end (by simp)))))); go_wp2; go_roundw; (case rel => exact ⟨k + 1, by omega, by go_num, HN, HB.out.trans (hb.mono HB.out.size)⟩); (case measure => simp [intOf]; omega)))))
            · clear hq6 q7
              (go_wp2_with fail; clear x0 x1; go_loopw [33] (fun i wx => ∃ j : Nat, j ≤ x.ps.length ∧ i = .int .i64 j ∧ Hid (firstBad ((x.ps.map PtM.er).map ckPart) = firstBad (((x.ps.map PtM.er).map ckPart).drop j)) ∧ Below W.heap.size W wx) (fun i _ => x.ps.length - (intOf i).toNat); (case atStart => exact ⟨0, Nat.zero_le _, rfl, Lib.hid rfl, Below.refl _ _⟩); (case round => clear hb; obtain ⟨j, hj, rfl, hfj, hb⟩ := hrel; by_cases hjl : j < x.ps.length; (focus (obtain ⟨p, hpj⟩ : ∃ p, x.ps[j]? = some p := ⟨_, List.getElem?_eq_getElem hjl⟩; obtain ⟨b', off', hxa, bl', d0, d1⟩ := pt_get (hprow.below hb) hpj; have hpA := (HG.out p (List.mem_of_getElem? hpj)).keep hb hb.size; have hcj : ((x.ps.map PtM.er).map ckPart)[j]? = some (ckPart p.er) := (by rw [List.getElem?_map, List.getElem?_map, hpj]; rfl); have HCJ := Lib.hid hcj; have hs0 : Below wr.heap.size wr (wr.alloc (.cells #[.slice (p).fa (p).frs.length (p).fc, .slice (p).da (p).dfs.length (p).dc] 25)) := (by (repeat' (first | exact Below.refl _ _ | assumption | refine Below.setCell ?_ (by first | omega | exact Below.size (by assumption) | (simp; done) | (simp; omega)) _ | refine Below.alloc ?_ (by first | omega | exact Below.size (by assumption) | (simp; done) | (simp; omega)) _ | refine Below.drew ?_ | refine below_drewN ?_ _))); rw [hxa]; clear hpj hcj hxa; go_wp2_with fail; refine (check_any p _ (hpA.all hs0)).mono ?_; rintro e w2 ⟨rfl, hb2⟩; have hb3 := hb.trans ((hs0.trans (hb2.mono hs0.size)).mono hb.size); clear d0 d1 hb2 hs0; obtain ⟨n, hn⟩ : ∃ n, ckPart p.er = n := ⟨_, rfl⟩; rw [hn] at HCJ ⊢; clear hn; by_cases hn0 : n = 0; (focus (subst hn0; have hfj2 : Hid (firstBad ((x.ps.map PtM.er).map ckPart) = firstBad (((x.ps.map PtM.er).map ckPart).drop (j + 1))) := hfj.out.trans (firstBad_next HCJ.out); go_wp2; go_roundw; (case rel => exact ⟨j + 1, by omega, by go_num, hfj2, hb3⟩); (case measure => simp [intOf]; omega))); (focus (have HR := Lib.hid (hfb.out.trans (firstBad_drop (HCK.out.trans (by rw [HP.out]; exact congrArg some (hfj.out.trans (firstBad_drop HCJ.out hn0)))) hn0)); have t1 : (n != 0) = true := (by simpa using hn0); clear hn0; go_wp2; go_ret; exact ⟨ret_int (by rw [HF.out, HR.out]), HB.out.trans (hb3.mono HB.out.size)⟩)))); (focus (obtain rfl : j = x.ps.length := (by omega); have HN : Hid (firstBad ((l.map ItM.er).map ckItem) = firstBad (((l.map ItM.er).map ckItem).drop (k + 1))) := hfb.out.trans (firstBad_next (HCK.out.trans (by rw [HP.out]; exact congrArg some (hfj.out.trans (firstBad_end (by simp)))))); go_wp2; go_roundw; (case rel => exact ⟨k + 1, by omega, by go_num, HN, HB.out.trans (hb.mono HB.out.size)⟩); (case measure => simp [intOf]; omega)))))
      · obtain rfl : k = l.length := by omega
        have HR := Lib.hid (hfb.out.trans (firstBad_end (by simp)))
        go_wp2
        go_ret
        exact ⟨ret_int (by rw [HF.out, HR.out]), hb⟩

/-! ### state.take -/
set_option maxHeartbeats 8000000 in
set_option maxRecDepth 100000 in
theorem take_any (p : PtM) (B gS gW gD nW nD : Nat) (first : List ByteArray) (out : List Prt) (w : World) (h : p.At w B) (hB : B ≤ w.heap.size) (hBW : B ≤ gW) (hBD : B ≤ gD) (hc : ckPart p.er = 0) (hS : StIs w gS gW gD nW nD first out) (hn : nW ≤ 100000) (hn' : nD ≤ 100000) :
    Calls Tryd.prog 46 #[.pointer (some ⟨gS, 0, none⟩), .agg #[.slice p.fa p.frs.length p.fc, .slice p.da p.dfs.length p.dc]] w fun e w' => e = .returned (.tuple #[]) ∧ StIs w' gS gW gD (nW + 480) (nD + 60) first (out ++ [p.er]) ∧ TwoBy w w' gW gD := by
  have kP := Blk.new w 25 #[.slice p.fa p.frs.length p.fc, .slice p.da p.dfs.length p.dc]
  have hb : Below w.heap.size w (w.alloc (.cells #[.slice (p).fa (p).frs.length (p).fc, .slice (p).da (p).dfs.length (p).dc] 25)) := by (repeat' (first | exact Below.refl _ _ | assumption | refine Below.setCell ?_ (by first | omega | exact Below.size (by assumption) | (simp; done) | (simp; omega)) _ | refine Below.alloc ?_ (by first | omega | exact Below.size (by assumption) | (simp; done) | (simp; omega)) _ | refine Below.drew ?_ | refine below_drewN ?_ _))
  have hS1 := hS.all hb
  have h1 := h.keep (hb.mono hB) (Nat.le_trans hB hb.size)
  have HC := Lib.hid hc
  have HWF := wanted_few hc
  have HDF := defined_few hc
  have HWS : Hid (∀ s ∈ wantedP p.er, s.size ≤ 8) := fun s hs => wanted_short hc hs
  have HDS : Hid (∀ s ∈ definedP p.er, s.size ≤ 8) := fun s hs => defined_short hc hs
  clear hc hS
  go_enter Tryd.func46, Tryd.ntmps46
  go_wp2_with fail
  refine (wanted_any p _ h1).mono ?_
  rintro e w1 ⟨v1, rfl, _, hv1, hb1⟩
  have hF := hv1 HC.out
  rw [HC.out]
  obtain ⟨A1, c1, rfl, hc1, _⟩ := own_form hF
  replace hS1 := hS1.all hb1
  replace kP := kP.all hb1
  have hb01 := hb.trans (hb1.mono hb.size)
  clear hb1 hv1 hb h1
  obtain ⟨l1, hl1⟩ : ∃ l, l = wantedP p.er := ⟨_, rfl⟩
  rw [← hl1] at hF HWF HWS ⊢
  have HL1 := Lib.hid hl1
  clear hl1
  go_wp2_with fail
  go_loopw [19] (fun i wr => ∃ k : Nat, k ≤ l1.length ∧ i = .int .i64 k ∧ SetIs wr gW (nW + k) (l1.take k ++ wantS first out) ∧ w1.grownBy wr (some gW)) (fun i _ => l1.length - (intOf i).toNat)
  case atStart => exact ⟨0, Nat.zero_le _, rfl, by simpa using hS1.hw, World.grownBy.refl _ _⟩
  case round =>
    obtain ⟨k, hk, rfl, hset, hg⟩ := hrel
    by_cases hlt : k < l1.length
    · obtain ⟨s, hs⟩ : ∃ s, l1[k]? = some s := ⟨_, List.getElem?_eq_getElem hlt⟩
      have hFr := Reads.of_own (hS1.hw.own hF hg)
      obtain ⟨b, off, u, rfl, bl, hu, hcu⟩ := hFr.at_ hlt
      rw [strsV_get hs] at hu
      injection hu with hu
      subst hu
      have s0 := (hS1.hw.blk hS1.st hg).cell 0
      have hs8 := HWS.out s (List.mem_of_getElem? hs)
      have HX : Hid (∀ x, x ∈ s :: (l1.take k ++ wantS first out) ↔ x ∈ l1.take (k + 1) ++ wantS first out) := fun x => by
        rw [List.take_add_one, hs]
        simp only [List.mem_cons, List.mem_append, Option.toList_some, List.not_mem_nil, or_false]
        constructor
        · rintro (h | h | h)
          · exact .inl (.inr h)
          · exact .inl (.inl h)
          · exact .inr h
        · rintro ((h | h) | h)
          · exact .inr (.inl h)
          · exact .inl h
          · exact .inr (.inr h)
      clear hs hFr
      go_wp2_with (at_mapUpdate; refine wpList_setPut _ rfl _ _ _ rfl gW (nW + k) _ hset rfl (by omega) s rfl rfl (by omega) ?_; intro w2 hs2 hg2)
      go_roundw
      case rel => exact ⟨k + 1, by omega, by go_num, hs2.ext HX.out, hg.trans hg2⟩
      case measure => simp [intOf]; omega
    · obtain rfl : k = l1.length := by omega
      have hS2 : SetIs wr gD nD (haveS out) := hS1.hd.kept hg (fun e => hS1.ne (by injection e with e; exact e.symm))
      have kP2 := hS1.hw.blk kP hg
      have kS2 := hS1.hw.blk hS1.st hg
      have hBr : Below B w wr := (hb01.mono hB).grown hg (Nat.le_trans hB hb01.size) (fun g hg' => by injection hg' with hg'; omega)
      have h2 := h.keep hBr (Nat.le_trans hB (Nat.le_trans hb01.size hg.size))
      have p0 := kP2.cell 0
      have p1 := kP2.cell 1
      rw [List.take_length] at hset
      have hset2 : SetIs wr gW (nW + 480) (wantS first (out ++ [p.er])) := (hset.mono (by omega)).ext fun x => by rw [mem_wantS_snoc, HL1.out]
      clear hset
      have hgw : w.grownBy wr (some gW) := (only_of_below hb01 _).trans hg
      have hne := hS1.ne
      clear hS1 kP hF hg hb01 hBr
      go_wp2_with fail
      refine (defined_any p _ h2).mono ?_
      rintro e w3 ⟨v3, rfl, _, hv3, hb3⟩
      have hG := hv3 HC.out
      rw [HC.out]
      obtain ⟨A3, c3, rfl, hc3, _⟩ := own_form hG
      replace hS2 := hS2.all hb3
      replace hset2 := hset2.all hb3
      replace kS2 := kS2.all hb3
      replace hgw := hgw.trans (only_of_below hb3 _)
      clear hb3 hv3 h2 kP2 p0 p1 hk hlt hc1
      obtain ⟨l2, hl2⟩ : ∃ l, l = definedP p.er := ⟨_, rfl⟩
      rw [← hl2] at hG HDF HDS ⊢
      have HL2 := Lib.hid hl2
      clear hl2
      go_wp2_with fail
      go_loopw [36] (fun i wx => ∃ k : Nat, k ≤ l2.length ∧ i = .int .i64 k ∧ SetIs wx gD (nD + k) (l2.take k ++ haveS out) ∧ w3.grownBy wx (some gD)) (fun i _ => l2.length - (intOf i).toNat)
      case atStart => exact ⟨0, Nat.zero_le _, rfl, by simpa using hS2, World.grownBy.refl _ _⟩
      case round =>
        obtain ⟨k, hk, rfl, hset, hg⟩ := hrel
        by_cases hlt : k < l2.length
        · obtain ⟨s, hs⟩ : ∃ s, l2[k]? = some s := ⟨_, List.getElem?_eq_getElem hlt⟩
          have hFr := Reads.of_own (hS2.own hG hg)
          obtain ⟨b, off, u, rfl, bl, hu, hcu⟩ := hFr.at_ hlt
          rw [strsV_get hs] at hu
          injection hu with hu
          subst hu
          have s0 := (hS2.blk kS2 hg).cell 1
          have hs8 := HDS.out s (List.mem_of_getElem? hs)
          have HX : Hid (∀ x, x ∈ s :: (l2.take k ++ haveS out) ↔ x ∈ l2.take (k + 1) ++ haveS out) := fun x => by
            rw [List.take_add_one, hs]
            simp only [List.mem_cons, List.mem_append, Option.toList_some, List.not_mem_nil, or_false]
            constructor
            · rintro (h | h | h)
              · exact .inl (.inr h)
              · exact .inl (.inl h)
              · exact .inr h
            · rintro ((h | h) | h)
              · exact .inr (.inl h)
              · exact .inl h
              · exact .inr (.inr h)
          clear hs hFr
          go_wp2_with (at_mapUpdate; refine wpList_setPut _ rfl _ _ _ rfl gD (nD + k) _ hset rfl (by omega) s rfl rfl (by omega) ?_; intro w2 hs2 hg2)
          go_roundw
          case rel => exact ⟨k + 1, by omega, by go_num, hs2.ext HX.out, hg.trans hg2⟩
          case measure => simp [intOf]; omega
        · obtain rfl : k = l2.length := by omega
          rw [List.take_length] at hset
          have hset3 : SetIs wr gD (nD + 60) (haveS (out ++ [p.er])) := (hset.mono (by omega)).ext fun x => by rw [mem_haveS_snoc, HL2.out]
          have hfin : StIs wr gS gW gD (nW + 480) (nD + 60) first (out ++ [p.er]) := ⟨hS2.blk kS2 hg, hne, hset2.kept hg (fun e => hne (by injection e)), hset3⟩
          have htw : TwoBy w wr gW gD := ⟨w3, hgw, hg⟩
          clear hset hset3 hset2 hS2 kS2 hG hg hgw
          go_wp2
          first | go_end0 | refine bodyPost_ret (results_none rfl _ _ _) rfl ?_
          exact ⟨rfl, hfin, htw⟩

/-! ### state.helps -/
theorem quiet_look {C : World → Prop} {o : Oper} {a : Act} {K : Act → Prop} (m x : Operand) (h : o.op = Op.lookup 81 m x false) (v : Value) (hv : ∀ w, C w → (Instr.lookup 81 (a.eval m) (a.eval x) false).run Tryd.prog w = .ok v w) (hk : K (a.put o.dst v)) : o.quiet Tryd.prog a C K :=
  ⟨v, fun w hw => by
    unfold Oper.quietAt
    have e := hv w hw
    simp [execOp, h, e, Result.andThen, Oper.quietUpon], hk⟩
set_option maxHeartbeats 8000000 in
set_option maxRecDepth 100000 in
theorem helps1_any (x : Df) (gB gS gW gD nW nD : Nat) (first : List ByteArray) (out : List Prt) (w : World) (kB : Blk w gB 80 #[.pointer (some ⟨gS, 0, none⟩)]) (hS : StIs w gS gW gD nW nD first out) (hx : x.name.size ≤ 8) :
    Calls Tryd.prog 88 #[.agg #[.string x.name, .int .i64 x.kind, .int .i64 x.frag, .int .i64 x.at_, .int .i64 x.size, .int .i64 x.align], .pointer (some ⟨gB, 0, none⟩)] w fun e w' => e = .returned (.bool (helpD (wantS first out) (haveS out) x)) ∧ Below w.heap.size w w' := by
  have hb : Below w.heap.size w (w.alloc (.cells #[.string x.name, .int .i64 x.kind, .int .i64 x.frag, .int .i64 x.at_, .int .i64 x.size, .int .i64 x.align] 70)) := by (repeat' (first | exact Below.refl _ _ | assumption | refine Below.setCell ?_ (by first | omega | exact Below.size (by assumption) | (simp; done) | (simp; omega)) _ | refine Below.alloc ?_ (by first | omega | exact Below.size (by assumption) | (simp; done) | (simp; omega)) _ | refine Below.drew ?_ | refine below_drewN ?_ _))
  have kX := Blk.new w 70 #[.string x.name, .int .i64 x.kind, .int .i64 x.frag, .int .i64 x.at_, .int .i64 x.size, .int .i64 x.align]
  replace kB := kB.all hb
  replace hS := hS.all hb
  obtain ⟨b1, hb1⟩ : ∃ b, decide (x.name ∈ wantS first out) = b := ⟨_, rfl⟩
  obtain ⟨b2, hb2⟩ : ∃ b, decide (x.name ∈ haveS out) = b := ⟨_, rfl⟩
  have HV : Hid (helpD (wantS first out) (haveS out) x = ((x.kind != 3) && (b1 && !b2))) := by show _ = _; unfold helpD; rw [hb1, hb2]
  have HSH := Lib.hid hS
  have s0 := hS.st.cell 0
  have s1 := hS.st.cell 1
  have HB1 := Lib.hid hb1
  have HB2 := Lib.hid hb2
  clear hb1 hb2 hS
  go_enter Tryd.func88, Tryd.ntmps88
  go_upto_region 1 with (fail)
  obtain ⟨W, hW⟩ : ∃ W, W = w.alloc (.cells #[.string x.name, .int .i64 x.kind, .int .i64 x.frag, .int .i64 x.at_, .int .i64 x.size, .int .i64 x.align] 70) := ⟨_, rfl⟩
  obtain ⟨gX, hgX⟩ : ∃ g, g = w.heap.size := ⟨_, rfl⟩
  rw [show Blk (w.alloc (.cells #[.string x.name, .int .i64 x.kind, .int .i64 x.frag, .int .i64 x.at_, .int .i64 x.size, .int .i64 x.align] 70)) w.heap.size = Blk W gX by rw [hW, hgX]] at kX
  rw [← hgX]
  rw [← hW] at kB HSH s0 s1 hb ⊢
  have L1 : Hid (∀ n, (Instr.lookup 81 (.map (some gW)) (.string x.name) false).run Tryd.prog (W.drewN n) = .ok (.bool b1) (W.drewN n)) := fun n => by
    have hs : SetIs (W.drewN n) gW nW (wantS first out) := HSH.out.hw
    rw [← HB1.out]
    exact hs.look (by omega)
  have L2 : Hid (∀ n, (Instr.lookup 81 (.map (some gD)) (.string x.name) false).run Tryd.prog (W.drewN n) = .ok (.bool b2) (W.drewN n)) := fun n => by
    have hs : SetIs (W.drewN n) gD nD (haveS out) := HSH.out.hd
    rw [← HB2.out]
    exact hs.look (by omega)
  clear HB1 HB2 HSH hx
  clear hW hgX
  have x0 := kX.cell 0
  have x1 := kX.cell 1
  have y0 := kB.cell 0
  obtain ⟨q, hq⟩ : ∃ b, (x.kind != 3) = b := ⟨_, rfl⟩
  rw [hq] at HV
  rcases q with _ | _
  · go_quiet (fail)
    go_wp2
    go_ret
    exact ⟨by rw [HV.out]; rfl, by (repeat' (first | exact Below.refl _ _ | assumption | refine Below.setCell ?_ (by first | omega | exact Below.size (by assumption) | (simp; done) | (simp; omega)) _ | refine Below.alloc ?_ (by first | omega | exact Below.size (by assumption) | (simp; done) | (simp; omega)) _ | refine Below.drew ?_ | refine below_drewN ?_ _))⟩
  · rcases b1 with _ | _
    · refine wp_region_quiet_lit (by kernel_rfl) (by kernel_rfl) ?_
      repeat (go_big_quiet_step (fail))
      (go_big_quiet_want; refine quiet_look _ _ rfl (.bool false) (fun w' hw' => by obtain ⟨n, rfl⟩ := hw'; exact (L1).out n) ?_; go_big_quiet_on; simp only [Act.put, List.setIfInBounds_toArray, List.set_cons_zero, List.set_cons_succ]; repeat (go_big_quiet_step (fail)))
      (refine wpQuiet_nil ?_; intro _ hw'; obtain ⟨nq, hw''⟩ := hw'; subst hw'')
      go_wp2
      go_ret
      exact ⟨by rw [HV.out]; rfl, by (repeat' (first | exact Below.refl _ _ | assumption | refine Below.setCell ?_ (by first | omega | exact Below.size (by assumption) | (simp; done) | (simp; omega)) _ | refine Below.alloc ?_ (by first | omega | exact Below.size (by assumption) | (simp; done) | (simp; omega)) _ | refine Below.drew ?_ | refine below_drewN ?_ _))⟩
    · rcases b2 with _ | _
      all_goals
        refine wp_region_quiet_lit (by kernel_rfl) (by kernel_rfl) ?_
        repeat (go_big_quiet_step (fail))
        (go_big_quiet_want; refine quiet_look _ _ rfl (.bool true) (fun w' hw' => by obtain ⟨n, rfl⟩ := hw'; exact (L1).out n) ?_; go_big_quiet_on; simp only [Act.put, List.setIfInBounds_toArray, List.set_cons_zero, List.set_cons_succ]; repeat (go_big_quiet_step (fail)))
        first
          | (go_big_quiet_want; refine quiet_look _ _ rfl (.bool true) (fun w' hw' => by obtain ⟨n, rfl⟩ := hw'; exact (L2).out n) ?_; go_big_quiet_on; simp only [Act.put, List.setIfInBounds_toArray, List.set_cons_zero, List.set_cons_succ]; repeat (go_big_quiet_step (fail)))
          | (go_big_quiet_want; refine quiet_look _ _ rfl (.bool false) (fun w' hw' => by obtain ⟨n, rfl⟩ := hw'; exact (L2).out n) ?_; go_big_quiet_on; simp only [Act.put, List.setIfInBounds_toArray, List.set_cons_zero, List.set_cons_succ]; repeat (go_big_quiet_step (fail)))
        (refine wpQuiet_nil ?_; intro _ hw'; obtain ⟨nq, hw''⟩ := hw'; subst hw'')
        go_wp2
        go_ret
        exact ⟨by rw [HV.out]; rfl, by (repeat' (first | exact Below.refl _ _ | assumption | refine Below.setCell ?_ (by first | omega | exact Below.size (by assumption) | (simp; done) | (simp; omega)) _ | refine Below.alloc ?_ (by first | omega | exact Below.size (by assumption) | (simp; done) | (simp; omega)) _ | refine Below.drew ?_ | refine below_drewN ?_ _))⟩

set_option maxHeartbeats 8000000 in
set_option maxRecDepth 100000 in
theorem idxFDfh_any (A : Option Addr) (c : Nat) (l : List Df) (pr : Df → Bool) (gB : Nat) (w : World) (hR : Reads w w.heap.size 6 A l.length (dfsV l)) (hlm : l.length ≤ 9223372036854775807)
    (HL : ∀ x ∈ l, ∀ W, Below w.heap.size w W → Calls Tryd.prog 88 #[.agg #[.string x.name, .int .i64 x.kind, .int .i64 x.frag, .int .i64 x.at_, .int .i64 x.size, .int .i64 x.align], .pointer (some ⟨gB, 0, none⟩)] W fun e w' => e = .returned (.bool (pr x)) ∧ Below W.heap.size W w') :
    Calls Tryd.prog 112 #[.slice A l.length c, .func (.func 88) #[] #[.pointer (some ⟨gB, 0, none⟩)]] w
      fun e w' => (∃ n : Int, e = .returned (.int .i64 n) ∧ decide (0 ≤ n) = l.any pr) ∧ Below w.heap.size w w' := by
  have HL := Lib.hid HL
  go_enter Tryd.func112, Tryd.ntmps112
  go_wp2_with fail
  go_loopw [8] (fun i wr => ∃ k : Nat, k ≤ l.length ∧ i = .int .i64 k ∧ Hid ((l.take k).any pr = false) ∧ Below w.heap.size w wr) (fun i _ => l.length - (intOf i).toNat)
  case atStart => exact ⟨0, Nat.zero_le _, rfl, Lib.hid (by simp), Below.refl _ _⟩
  case round =>
    obtain ⟨k, hk, rfl, hno, hb⟩ := hrel
    by_cases hlt : k < l.length
    · obtain ⟨x, hx⟩ : ∃ x, l[k]? = some x := ⟨_, List.getElem?_eq_getElem hlt⟩
      obtain ⟨b, off, rfl, bl, c0, c1, c2, c3, c4, c5⟩ := df_get (hR.below hb) hx
      have HCx := HL.out x (List.mem_of_getElem? hx) wr hb
      have HY : Hid ((l.take (k + 1)).any pr = pr x) := by show _ = _; rw [List.take_add_one, hx, List.any_append, hno.out]; simp
      have HM : Hid (pr x = true → l.any pr = true) := fun h => List.any_eq_true.2 ⟨x, List.mem_of_getElem? hx, h⟩
      obtain ⟨t, ht⟩ : ∃ t, pr x = t := ⟨_, rfl⟩
      rw [ht] at HCx HY HM
      replace HCx := Lib.hid HCx
      clear hx ht
      cases t with
      | true =>
        have HM2 := Lib.hid (HM.out rfl)
        clear HM
        go_wp2_with (go_at_call 88; refine HCx.out.mono ?_; rintro e w' ⟨rfl, hb2⟩)
        go_ret
        exact ⟨⟨k, rfl, by rw [HM2.out]; exact decide_eq_true (by omega)⟩, hb.trans (hb2.mono hb.size)⟩
      | false =>
        go_wp2_with (go_at_call 88; refine HCx.out.mono ?_; rintro e w' ⟨rfl, hb2⟩)
        go_roundw
        case rel => exact ⟨k + 1, by omega, by go_num, HY, hb.trans (hb2.mono hb.size)⟩
        case measure => simp [intOf]; omega
    · obtain rfl : k = l.length := by omega
      go_wp2
      go_ret
      exact ⟨⟨-1, rfl, by have := hno.out; rw [List.take_length] at this; rw [this]; rfl⟩, hb⟩
set_option maxHeartbeats 8000000 in
theorem hasFDfh_any (A : Option Addr) (c : Nat) (l : List Df) (pr : Df → Bool) (gB : Nat) (w : World) (hR : Reads w w.heap.size 6 A l.length (dfsV l)) (hlm : l.length ≤ 9223372036854775807)
    (HL : ∀ x ∈ l, ∀ W, Below w.heap.size w W → Calls Tryd.prog 88 #[.agg #[.string x.name, .int .i64 x.kind, .int .i64 x.frag, .int .i64 x.at_, .int .i64 x.size, .int .i64 x.align], .pointer (some ⟨gB, 0, none⟩)] W fun e w' => e = .returned (.bool (pr x)) ∧ Below W.heap.size W w') :
    Calls Tryd.prog 87 #[.slice A l.length c, .func (.func 88) #[] #[.pointer (some ⟨gB, 0, none⟩)]] w
      fun e w' => e = .returned (.bool (l.any pr)) ∧ Below w.heap.size w w' := by
  have HI := Lib.hid (idxFDfh_any A c l pr gB w hR hlm HL)
  clear HL
  go_enter Tryd.func87, Tryd.ntmps87
  go_wp2_with fail
  refine HI.out.mono ?_
  rintro e w1 ⟨⟨n, rfl, hn⟩, hb⟩
  replace hn := Lib.hid hn
  go_wp2
  go_ret
  exact ⟨by rw [← hn.out]; rfl, hb⟩

set_option maxHeartbeats 8000000 in
set_option maxRecDepth 100000 in
theorem helps_any (p : PtM) (gS gW gD nW nD : Nat) (first : List ByteArray) (out : List Prt) (w : World) (h : p.At w w.heap.size) (hc : ckPart p.er = 0) (hS : StIs w gS gW gD nW nD first out) :
    Calls Tryd.prog 48 #[.pointer (some ⟨gS, 0, none⟩), .agg #[.slice p.fa p.frs.length p.fc, .slice p.da p.dfs.length p.dc]] w fun e w' => e = .returned (.bool (helpsB first out p.er)) ∧ Below w.heap.size w w' := by
  have kB := (Blk.new w 80 #[.pointer (some ⟨gS, 0, none⟩)]).alloc (.cells #[.slice (p).fa (p).frs.length (p).fc, .slice (p).da (p).dfs.length (p).dc] 25)
  have hb : Below w.heap.size w ((w.alloc (.cells #[.pointer (some ⟨gS, 0, none⟩)] 80)).alloc (.cells #[.slice (p).fa (p).frs.length (p).fc, .slice (p).da (p).dfs.length (p).dc] 25)) := by (repeat' (first | exact Below.refl _ _ | assumption | refine Below.setCell ?_ (by first | omega | exact Below.size (by assumption) | (simp; done) | (simp; omega)) _ | refine Below.alloc ?_ (by first | omega | exact Below.size (by assumption) | (simp; done) | (simp; omega)) _ | refine Below.drew ?_ | refine below_drewN ?_ _))
  have hd := ((h.df.below hb).more hb.size)
  have hdm := h.dm
  have HS := Lib.hid (hS.all hb)
  have HD : Hid (∀ x ∈ p.dfs, x.name.size ≤ 8) := fun x hx => nameB_short (def_name hc hx)
  clear h hc hS
  go_enter Tryd.func48, Tryd.ntmps48
  go_wp2_with fail
  refine (hasFDfh_any p.da p.dc p.dfs (helpD (wantS first out) (haveS out)) w.heap.size _ hd hdm ?_).mono ?_
  · intro x hx W' hbW
    exact helps1_any x w.heap.size gS gW gD nW nD first out W' (kB.all hbW) (HS.out.all hbW) (HD.out x hx)
  · rintro e w' ⟨rfl, hb2⟩
    go_wp2
    go_ret
    exact ⟨rfl, hb.trans (hb2.mono hb.size)⟩
end Go.Proofs.YtmlomnhjbmocfaaDoor
