/- ropewalkref.CheckItems: what it computes. -/
import Derived.Test.YtmlomnhjbmocfaaDoorArcM
import Derived.Test.YtmlomnhjbmocfaaDoorRefCheck
import Derived.IntWalk
set_option linter.all false
namespace Go.Proofs.YtmlomnhjbmocfaaDoor
open Go.RowKit

set_option maxHeartbeats 8000000 in
set_option maxRecDepth 100000 in
theorem refItems_any (A : Option Addr) (c : Nat) (l : List ItM) (w : World) (h : ItsAt w w.heap.size A l) (hlm : l.length ≤ 9223372036854775807) :
    Calls Tryd.prog 15 #[.slice A l.length c] w fun e w' => e = .returned (.int .i64 (ckItems (l.map ItM.er))) ∧ Below w.heap.size w w' := by
  have hrow := h.row
  have HE := Lib.hid h.each
  clear h
  by_cases h12 : 12 < l.length
  · have HM := Lib.hid (ckItems_many (l := l.map ItM.er) (by rw [List.length_map]; exact h12))
    have q1 : decide ((12 : Int) < (l.length : Int)) = true := decide_eq_true (by omega)
    have q2 : decide (12 < l.length) = true := decide_eq_true h12
    clear h12
    go_enter Tryd.func15, Tryd.ntmps15
    go_wp2
    go_ret
    exact ⟨ret_int (by rw [HM.out]), Below.refl _ _⟩
  · have HF := Lib.hid (ckItems_few (l := l.map ItM.er) (by rw [List.length_map]; exact h12))
    have q1 : decide ((12 : Int) < (l.length : Int)) = false := decide_eq_false (by omega)
    have q2 : decide (12 < l.length) = false := decide_eq_false h12
    clear h12
    go_enter Tryd.func15, Tryd.ntmps15
    go_wp2_with fail
    go_loopw [13] (fun i wr => ∃ k : Nat, k ≤ l.length ∧ i = .int .i64 k ∧ Hid (firstBad ((l.map ItM.er).map ckItem) = firstBad (((l.map ItM.er).map ckItem).drop k)) ∧ Below w.heap.size w wr) (fun i _ => l.length - (intOf i).toNat)
    case atStart => exact ⟨0, Nat.zero_le _, rfl, Lib.hid rfl, Below.refl _ _⟩
    case round =>
      obtain ⟨k, hk, rfl, hfb, hb⟩ := hrel
      by_cases hlt : k < l.length
      · obtain ⟨x, hx⟩ : ∃ x, l[k]? = some x := ⟨_, List.getElem?_eq_getElem hlt⟩
        obtain ⟨b, off, rfl, bl, c0, c1⟩ := it_get (hrow.below hb) hx
        have hg := (HE.out x (List.mem_of_getElem? hx)).keep hb hb.size
        have hck : ((l.map ItM.er).map ckItem)[k]? = some (ckItem x.er) := by rw [List.getElem?_map, List.getElem?_map, hx]; rfl
        have HCK := Lib.hid hck
        clear hx hck
        go_upto_region 6 with (fail)
        have kX := Blk.new wr 85 #[.bool x.arch, .slice x.pa x.ps.length x.pc]
        have hbx : Below wr.heap.size wr (wr.alloc (.cells #[.bool x.arch, .slice x.pa x.ps.length x.pc] 85)) := by (repeat' (first | exact Below.refl _ _ | assumption | refine Below.setCell ?_ (by first | omega | exact Below.size (by assumption) | (simp; done) | (simp; omega)) _ | refine Below.alloc ?_ (by first | omega | exact Below.size (by assumption) | (simp; done) | (simp; omega)) _ | refine Below.drew ?_ | refine below_drewN ?_ _))
        replace hg := hg.keep hbx hbx.size
        replace hb := hb.trans (hbx.mono hb.size)
        obtain ⟨gX, hgX⟩ : ∃ g, g = wr.heap.size := ⟨_, rfl⟩
        obtain ⟨W, hW⟩ : ∃ W, W = wr.alloc (.cells #[.bool x.arch, .slice x.pa x.ps.length x.pc] 85) := ⟨_, rfl⟩
        rw [← hgX] at kX ⊢
        rw [← hW] at kX hg hb ⊢
        clear hW hgX hbx c0 c1
        have x0 := kX.cell 0
        have x1 := kX.cell 1
        by_cases h8 : 8 < x.ps.length
        · have HR := Lib.hid (hfb.out.trans (firstBad_drop (HCK.out.trans (by rw [ckItem_many (by simpa [ItM.er] using h8)])) (by decide : (2 : Int) ≠ 0)))
          have q3 : decide ((8 : Int) < (x.ps.length : Int)) = true := decide_eq_true (by omega)
          have q4 : decide (8 < x.ps.length) = true := decide_eq_true h8
          clear h8
          go_wp2
          go_ret
          exact ⟨ret_int (by rw [HF.out, HR.out]), hb⟩
        · have q3 : decide ((8 : Int) < (x.ps.length : Int)) = false := decide_eq_false (by omega)
          have q4 : decide (8 < x.ps.length) = false := decide_eq_false h8
          by_cases h1 : x.arch = false ∧ x.ps.length ≠ 1
          · have HR := Lib.hid (hfb.out.trans (firstBad_drop (HCK.out.trans (by rw [ckItem_form (by simpa [ItM.er] using h8) h1.1 (by simpa [ItM.er] using h1.2)])) (by decide : (4 : Int) ≠ 0)))
            have q5 : ((x.ps.length : Int) != 1) = true := by simp; omega
            rw [h1.1] at x0
            clear h8 h1
            go_wp2
            go_ret
            exact ⟨ret_int (by rw [HF.out, HR.out]), hb⟩
          · have HP := Lib.hid (ckItem_parts (x := x.er) (by simpa [ItM.er] using h8) (by simpa [ItM.er] using h1))
            have h8' : x.ps.length ≤ 8 := by omega
            obtain ⟨ar, har⟩ : ∃ a, x.arch = a := ⟨_, rfl⟩
            rw [har] at h1 x0
            have HAR := Lib.hid har
            clear h8 har
            have hprow := hg.ps.row
            have HG := Lib.hid hg.ps.each
            have HB := Lib.hid hb
            clear hg
            obtain ⟨q6, hq6⟩ : ∃ t, t = ((x.ps.length : Int) != 1) := ⟨_, rfl⟩
            have q7 : (!ar && q6) = false := by
              rcases ar with _ | _
              · have : x.ps.length = 1 := by
                  by_cases e : x.ps.length = 1
                  · exact e
                  · exact absurd ⟨rfl, e⟩ h1
                rw [hq6, this]; rfl
              · rfl
            clear h1
            rcases ar with _ | _
            · have q8 : ((x.ps.length : Int) != 1) = false := by
                rw [← hq6]; simpa using q7
              clear hq6 q7
              (go_wp2_with fail; clear x0 x1; go_loopw [33] (fun i wx => ∃ j : Nat, j ≤ x.ps.length ∧ i = .int .i64 j ∧ Hid (firstBad ((x.ps.map PtM.er).map ckPart) = firstBad (((x.ps.map PtM.er).map ckPart).drop j)) ∧ Below W.heap.size W wx) (fun i _ => x.ps.length - (intOf i).toNat); (case atStart => exact ⟨0, Nat.zero_le _, rfl, Lib.hid rfl, Below.refl _ _⟩); (case round => clear hb; obtain ⟨j, hj, rfl, hfj, hb⟩ := hrel; by_cases hjl : j < x.ps.length; (focus (obtain ⟨p, hpj⟩ : ∃ p, x.ps[j]? = some p := ⟨_, List.getElem?_eq_getElem hjl⟩; obtain ⟨b', off', hxa, bl', d0, d1⟩ := pt_get (hprow.below hb) hpj; have hpA := (HG.out p (List.mem_of_getElem? hpj)).keep hb hb.size; have hcj : ((x.ps.map PtM.er).map ckPart)[j]? = some (ckPart p.er) := (by rw [List.getElem?_map, List.getElem?_map, hpj]; rfl); have HCJ := Lib.hid hcj; have hs0 : Below wr.heap.size wr (wr.alloc (.cells #[.slice (p).fa (p).frs.length (p).fc, .slice (p).da (p).dfs.length (p).dc] 25)) := (by (repeat' (first | exact Below.refl _ _ | assumption | refine Below.setCell ?_ (by first | omega | exact Below.size (by assumption) | (simp; done) | (simp; omega)) _ | refine Below.alloc ?_ (by first | omega | exact Below.size (by assumption) | (simp; done) | (simp; omega)) _ | refine Below.drew ?_ | refine below_drewN ?_ _))); rw [hxa]; clear hpj hcj hxa; go_wp2_with fail; refine (refCheck_any p _ (hpA.all hs0)).mono ?_; rintro e w2 ⟨rfl, hb2⟩; have hb3 := hb.trans ((hs0.trans (hb2.mono hs0.size)).mono hb.size); clear d0 d1 hb2 hs0; obtain ⟨n, hn⟩ : ∃ n, ckPart p.er = n := ⟨_, rfl⟩; rw [hn] at HCJ ⊢; clear hn; by_cases hn0 : n = 0; (focus (subst hn0; have hfj2 : Hid (firstBad ((x.ps.map PtM.er).map ckPart) = firstBad (((x.ps.map PtM.er).map ckPart).drop (j + 1))) := hfj.out.trans (firstBad_next HCJ.out); go_wp2; go_roundw; (case rel => exact ⟨j + 1, by omega, by go_num, hfj2, hb3⟩); (case measure => simp [intOf]; omega))); (focus (have HR := Lib.hid (hfb.out.trans (firstBad_drop (HCK.out.trans (by rw [HP.out]; exact congrArg some (hfj.out.trans (firstBad_drop HCJ.out hn0)))) hn0)); have t1 : (n != 0) = true := (by simpa using hn0); clear hn0; go_wp2; go_ret; exact ⟨ret_int (by rw [HF.out, HR.out]), HB.out.trans (hb3.mono HB.out.size)⟩)))); (focus (obtain rfl : j = x.ps.length := (by omega); have HN : Hid (firstBad ((l.map ItM.er).map ckItem) = firstBad (((l.map ItM.er).map ckItem).drop (k + 1))) := hfb.out.trans (firstBad_next (HCK.out.trans (by rw [HP.out]; exact congrArg some (hfj.out.trans (firstBad_end (by simp)))))); go_wp2; go_roundw; (case rel => exact ⟨k + 1, by omega, by go_num, HN, HB.out.trans (hb.mono HB.out.size)⟩); (case measure => simp [intOf]; omega)))))
            · rcases q6 with _ | _
              · have q8 : ((x.ps.length : Int) != 1) = false := hq6.symm
                clear hq6 q7
                (go_wp2_with fail; clear x0 x1; go_loopw [33] (fun i wx => ∃ j : Nat, j ≤ x.ps.length ∧ i = .int .i64 j ∧ Hid (firstBad ((x.ps.map PtM.er).map ckPart) = firstBad (((x.ps.map PtM.er).map ckPart).drop j)) ∧ Below W.heap.size W wx) (fun i _ => x.ps.length - (intOf i).toNat); (case atStart => exact ⟨0, Nat.zero_le _, rfl, Lib.hid rfl, Below.refl _ _⟩); (case round => clear hb; obtain ⟨j, hj, rfl, hfj, hb⟩ := hrel; by_cases hjl : j < x.ps.length; (focus (obtain ⟨p, hpj⟩ : ∃ p, x.ps[j]? = some p := ⟨_, List.getElem?_eq_getElem hjl⟩; obtain ⟨b', off', hxa, bl', d0, d1⟩ := pt_get (hprow.below hb) hpj; have hpA := (HG.out p (List.mem_of_getElem? hpj)).keep hb hb.size; have hcj : ((x.ps.map PtM.er).map ckPart)[j]? = some (ckPart p.er) := (by rw [List.getElem?_map, List.getElem?_map, hpj]; rfl); have HCJ := Lib.hid hcj; have hs0 : Below wr.heap.size wr (wr.alloc (.cells #[.slice (p).fa (p).frs.length (p).fc, .slice (p).da (p).dfs.length (p).dc] 25)) := (by (repeat' (first | exact Below.refl _ _ | assumption | refine Below.setCell ?_ (by first | omega | exact Below.size (by assumption) | (simp; done) | (simp; omega)) _ | refine Below.alloc ?_ (by first | omega | exact Below.size (by assumption) | (simp; done) | (simp; omega)) _ | refine Below.drew ?_ | refine below_drewN ?_ _))); rw [hxa]; clear hpj hcj hxa; go_wp2_with fail; refine (refCheck_any p _ (hpA.all hs0)).mono ?_; rintro e w2 ⟨rfl, hb2⟩; have hb3 := hb.trans ((hs0.trans (hb2.mono hs0.size)).mono hb.size); clear d0 d1 hb2 hs0; obtain ⟨n, hn⟩ : ∃ n, ckPart p.er = n := ⟨_, rfl⟩; rw [hn] at HCJ ⊢; clear hn; by_cases hn0 : n = 0; (focus (subst hn0; have hfj2 : Hid (firstBad ((x.ps.map PtM.er).map ckPart) = firstBad (((x.ps.map PtM.er).map ckPart).drop (j + 1))) := hfj.out.trans (firstBad_next HCJ.out); go_wp2; go_roundw; (case rel => exact ⟨j + 1, by omega, by go_num, hfj2, hb3⟩); (case measure => simp [intOf]; omega))); (focus (have HR := Lib.hid (hfb.out.trans (firstBad_drop (HCK.out.trans (by rw [HP.out]; exact congrArg some (hfj.out.trans (firstBad_drop HCJ.out hn0)))) hn0)); have t1 : (n != 0) = true := (by simpa using hn0); clear hn0; go_wp2; go_ret; exact ⟨ret_int (by rw [HF.out, HR.out]), HB.out.trans (hb3.mono HB.out.size)⟩)))); (focus (obtain rfl : j = x.ps.length := (by omega); have HN : Hid (firstBad ((l.map ItM.er).map ckItem) = firstBad (((l.map ItM.er).map ckItem).drop (k + 1))) := hfb.out.trans (firstBad_next (HCK.out.trans (by rw [HP.out]; exact congrArg some (hfj.out.trans (firstBad_end (by simp)))))); go_wp2; go_roundw; (case rel => exact ⟨k + 1, by omega, by go_num, HN, HB.out.trans (hb.mono HB.out.size)⟩); (case measure => simp [intOf]; omega)))))
              · have q8 : ((x.ps.length : Int) != 1) = true := hq6.symm
                clear hq6 q7
                (go_wp2_with fail; clear x0 x1; go_loopw [33] (fun i wx => ∃ j : Nat, j ≤ x.ps.length ∧ i = .int .i64 j ∧ Hid (firstBad ((x.ps.map PtM.er).map ckPart) = firstBad (((x.ps.map PtM.er).map ckPart).drop j)) ∧ Below W.heap.size W wx) (fun i _ => x.ps.length - (intOf i).toNat); (case atStart => exact ⟨0, Nat.zero_le _, rfl, Lib.hid rfl, Below.refl _ _⟩); (case round => clear hb; obtain ⟨j, hj, rfl, hfj, hb⟩ := hrel; by_cases hjl : j < x.ps.length; (focus (obtain ⟨p, hpj⟩ : ∃ p, x.ps[j]? = some p := ⟨_, List.getElem?_eq_getElem hjl⟩; obtain ⟨b', off', hxa, bl', d0, d1⟩ := pt_get (hprow.below hb) hpj; have hpA := (HG.out p (List.mem_of_getElem? hpj)).keep hb hb.size; have hcj : ((x.ps.map PtM.er).map ckPart)[j]? = some (ckPart p.er) := (by rw [List.getElem?_map, List.getElem?_map, hpj]; rfl); have HCJ := Lib.hid hcj; have hs0 : Below wr.heap.size wr (wr.alloc (.cells #[.slice (p).fa (p).frs.length (p).fc, .slice (p).da (p).dfs.length (p).dc] 25)) := (by (repeat' (first | exact Below.refl _ _ | assumption | refine Below.setCell ?_ (by first | omega | exact Below.size (by assumption) | (simp; done) | (simp; omega)) _ | refine Below.alloc ?_ (by first | omega | exact Below.size (by assumption) | (simp; done) | (simp; omega)) _ | refine Below.drew ?_ | refine below_drewN ?_ _))); rw [hxa]; clear hpj hcj hxa; go_wp2_with fail; refine (refCheck_any p _ (hpA.all hs0)).mono ?_; rintro e w2 ⟨rfl, hb2⟩; have hb3 := hb.trans ((hs0.trans (hb2.mono hs0.size)).mono hb.size); clear d0 d1 hb2 hs0; obtain ⟨n, hn⟩ : ∃ n, ckPart p.er = n := ⟨_, rfl⟩; rw [hn] at HCJ ⊢; clear hn; by_cases hn0 : n = 0; (focus (subst hn0; have hfj2 : Hid (firstBad ((x.ps.map PtM.er).map ckPart) = firstBad (((x.ps.map PtM.er).map ckPart).drop (j + 1))) := hfj.out.trans (firstBad_next HCJ.out); go_wp2; go_roundw; (case rel => exact ⟨j + 1, by omega, by go_num, hfj2, hb3⟩); (case measure => simp [intOf]; omega))); (focus (have HR := Lib.hid (hfb.out.trans (firstBad_drop (HCK.out.trans (by rw [HP.out]; exact congrArg some (hfj.out.trans (firstBad_drop HCJ.out hn0)))) hn0)); have t1 : (n != 0) = true := (by simpa using hn0); clear hn0; go_wp2; go_ret; exact ⟨ret_int (by rw [HF.out, HR.out]), HB.out.trans (hb3.mono HB.out.size)⟩)))); (focus (obtain rfl : j = x.ps.length := (by omega); have HN : Hid (firstBad ((l.map ItM.er).map ckItem) = firstBad (((l.map ItM.er).map ckItem).drop (k + 1))) := hfb.out.trans (firstBad_next (HCK.out.trans (by rw [HP.out]; exact congrArg some (hfj.out.trans (firstBad_end (by simp)))))); go_wp2; go_roundw; (case rel => exact ⟨k + 1, by omega, by go_num, HN, HB.out.trans (hb.mono HB.out.size)⟩); (case measure => simp [intOf]; omega)))))
      · obtain rfl : k = l.length := by omega
        have HR := Lib.hid (hfb.out.trans (firstBad_end (by simp)))
        go_wp2
        go_ret
        exact ⟨ret_int (by rw [HF.out, HR.out]), hb⟩

end Go.Proofs.YtmlomnhjbmocfaaDoor
