/- part.drop: what it computes. -/
import Derived.Test.YtokiekachlmigaaDoorBC
import Derived.Test.YtokiekachlmigaaDoorGroupsW
import Derived.Test.YtokiekachlmigaaDoorCopyW
import Derived.Test.YtokiekachlmigaaDoorBA
import Derived.Test.YtokiekachlmigaaDoorMakeN
import Derived.BigRegion
set_option linter.all false
namespace Go.Proofs.YtokiekachlmigaaDoor
open Go.RowKit

theorem make_to (n : Nat) (hn : n ≤ 1000000) (w : World) :
    (Instr.makeSlice 47 (.int .i64 (n : Int)) (.int .i64 (n : Int))).run Tryd.prog w = .ok (.slice (some ⟨w.heap.size, 0, none⟩) n n) (w.alloc (.cells (intsV (List.replicate n 0)).toArray 3)) := by
  obtain ⟨i0, hi, hz0, hz1, hz2⟩ := info_parts Tryd.infoInt
  have := run_make_one 47 3 i0 (.int .i64 0) Tryd.underlying47 hi hz0 hz1 rfl 8 hz2 n hn (by omega) w
  rw [this]
  simp [intsV, intV, List.map_const']

def DropIs (w : World) (p : Prt) (l : List ByteArray) (e : Ending) (w' : World) : Prop :=
  ∃ p' : PtM, e = .returned (.agg #[.slice p'.fa p'.frs.length p'.fc, .slice p'.da p'.dfs.length p'.dc]) ∧ p'.Own w' w.heap.size ∧ p'.er = dropP p l ∧ Below w.heap.size w w'

theorem cells_new {w : World} {t : TypeId} {cs : List Value} (j : Nat) (u : Value) (h : cs[j]? = some u) : (w.alloc (.cells cs.toArray t)).cell? ((⟨w.heap.size, 0, none⟩ : Addr).add j) = some u := by
  rw [add_none, Nat.zero_add, (Blk.new w t cs.toArray).cell]
  simpa using h
theorem fg_one (x : FgM) : ∀ u ∈ x.cells, u.oneCell' = true := by
  intro u hu
  exact fgsV_one [x] u (by simpa [fgsV] using hu)
theorem df_one (x : Df) : ∀ u ∈ x.cells, u.oneCell' = true := by
  intro u hu
  exact dfsV_one [x] u (by simpa [dfsV] using hu)
theorem partField0 (A : Option Addr) (n c : Nat) (A' : Option Addr) (n' c' : Nat) (w : World) : (Instr.field 25 (.agg #[.slice A n c, .slice A' n' c']) 0).run Tryd.prog w = .ok (.slice A n c) w := by kernel_rfl
theorem dropW0 (p : PtM) (w : World) : Blk ((((w.alloc (.cells #[.slice p.fa p.frs.length p.fc, .slice p.da p.dfs.length p.dc] 25)).alloc (.cells #[.slice none 0 0, .slice none 0 0] 25)).alloc (.cells (intsV (List.replicate p.frs.length 0)).toArray 3)).alloc (.cells #[.slice none 0 0, .slice none 0 0] 25)) w.heap.size 25 #[.slice p.fa p.frs.length p.fc, .slice p.da p.dfs.length p.dc] ∧ Blk ((((w.alloc (.cells #[.slice p.fa p.frs.length p.fc, .slice p.da p.dfs.length p.dc] 25)).alloc (.cells #[.slice none 0 0, .slice none 0 0] 25)).alloc (.cells (intsV (List.replicate p.frs.length 0)).toArray 3)).alloc (.cells #[.slice none 0 0, .slice none 0 0] 25)) (w.heap.size + 1) 25 #[.slice none 0 0, .slice none 0 0] ∧
    Blk ((((w.alloc (.cells #[.slice p.fa p.frs.length p.fc, .slice p.da p.dfs.length p.dc] 25)).alloc (.cells #[.slice none 0 0, .slice none 0 0] 25)).alloc (.cells (intsV (List.replicate p.frs.length 0)).toArray 3)).alloc (.cells #[.slice none 0 0, .slice none 0 0] 25)) (w.heap.size + 2) 3 (intsV (List.replicate p.frs.length 0)).toArray ∧ Blk ((((w.alloc (.cells #[.slice p.fa p.frs.length p.fc, .slice p.da p.dfs.length p.dc] 25)).alloc (.cells #[.slice none 0 0, .slice none 0 0] 25)).alloc (.cells (intsV (List.replicate p.frs.length 0)).toArray 3)).alloc (.cells #[.slice none 0 0, .slice none 0 0] 25)) (w.heap.size + 3) 25 #[.slice none 0 0, .slice none 0 0] ∧ Below w.heap.size w ((((w.alloc (.cells #[.slice p.fa p.frs.length p.fc, .slice p.da p.dfs.length p.dc] 25)).alloc (.cells #[.slice none 0 0, .slice none 0 0] 25)).alloc (.cells (intsV (List.replicate p.frs.length 0)).toArray 3)).alloc (.cells #[.slice none 0 0, .slice none 0 0] 25)) ∧ ((((w.alloc (.cells #[.slice p.fa p.frs.length p.fc, .slice p.da p.dfs.length p.dc] 25)).alloc (.cells #[.slice none 0 0, .slice none 0 0] 25)).alloc (.cells (intsV (List.replicate p.frs.length 0)).toArray 3)).alloc (.cells #[.slice none 0 0, .slice none 0 0] 25)).heap.size = w.heap.size + 4 :=
  ⟨(((Blk.new' _ _ _ rfl).alloc _).alloc _).alloc _, ((Blk.new' _ _ _ (by simp)).alloc _).alloc _, (Blk.new' _ _ _ (by simp)).alloc _, Blk.new' _ _ _ (by simp), by (repeat' (first | exact Below.refl _ _ | assumption | refine Below.setCell ?_ (by first | omega | exact Below.size (by assumption) | (simp; done) | (simp; omega)) _ | refine Below.alloc ?_ (by first | omega | exact Below.size (by assumption) | (simp; done) | (simp; omega)) _ | refine Below.drew ?_ | refine below_drewN ?_ _)), by simp⟩

set_option maxRecDepth 100000 in
set_option maxHeartbeats 20000000 in
theorem drop_any (p : PtM) (A : Option Addr) (c : Nat) (l : List ByteArray) (w : World) (h : p.At w w.heap.size) (hok : p.er.Ok) (hl : Reads w w.heap.size 1 A l.length (strsV l)) (hlm : l.length ≤ 9223372036854775807) :
    Calls Tryd.prog 129 #[.agg #[.slice p.fa p.frs.length p.fc, .slice p.da p.dfs.length p.dc], .slice A l.length c] w (DropIs w p.er l) := by
  have hs := small_of ((ok_iff _).2 hok)
  have hn := hs.fr
  have hmk := make_to p.frs.length (by omega)
  obtain ⟨hP, hR, hT, hO, hb0, hz0⟩ := dropW0 p w
  have h1 := h.all hb0
  obtain ⟨i0, hi, hiz, his, hib⟩ := info_parts Tryd.infoFrags
  unfold DropIs
  go_enter Tryd.func129, Tryd.ntmps129
  go_wp2_with fail
  obtain ⟨W0, hW0⟩ : ∃ W, W = ((((w.alloc (.cells #[.slice p.fa p.frs.length p.fc, .slice p.da p.dfs.length p.dc] 25)).alloc (.cells #[.slice none 0 0, .slice none 0 0] 25)).alloc (.cells (intsV (List.replicate p.frs.length 0)).toArray 3)).alloc (.cells #[.slice none 0 0, .slice none 0 0] 25)) := ⟨_, rfl⟩
  rw [← hW0] at hP hR hT hO hb0 hz0 h1 ⊢
  clear hW0
  obtain ⟨gO, hgO⟩ : ∃ g, g = w.heap.size + 1 + 1 + 1 := ⟨_, rfl⟩
  obtain ⟨gT, hgT⟩ : ∃ g, g = w.heap.size + 1 + 1 := ⟨_, rfl⟩
  obtain ⟨gR, hgR⟩ : ∃ g, g = w.heap.size + 1 := ⟨_, rfl⟩
  rw [← hgO, ← hgT, ← hgR]
  rw [show w.heap.size + 3 = gO from hgO.symm] at hO
  rw [show w.heap.size + 2 = gT from hgT.symm] at hT
  rw [show w.heap.size + 1 = gR from hgR.symm] at hR
  refine (copy_any p _ h1 hs).mono ?_
  rintro e w1 ⟨⟨qf, qd, qa, qc, qda, qdc⟩, rfl, ⟨ownf, ownd, owne, ownA⟩, her, hb1⟩
  dsimp only at ownf ownd owne ownA ⊢
  have hlen : qf.length = p.frs.length := by
    have := congrArg (fun r => r.frs.length) her
    simpa [PtM.er] using this
  have l1 : qf.length ≤ p.frs.length := by omega
  have l2 : p.frs.length ≤ qf.length := by omega
  have hq60 : qf.length ≤ 60 := by omega
  have hzz := hb1.size
  have hb01 : Below w.heap.size w w1 := hb0.trans (hb1.mono hb0.size)
  have hDA : DA w1 w.heap.size gR gT gO w1.heap.size #[.slice p.fa p.frs.length p.fc, .slice p.da p.dfs.length p.dc] ⟨qf, qd, qa, qc, qda, qdc⟩ (.slice none 0 0) (keptUp l qf 0) (toUp l qf 0) :=
    ⟨hP.all hb1, hR.all hb1, by rw [toUp_zero, hlen]; exact hT.all hb1, hO.all hb1, World.ownsRow_nil _ _ _ _, ownf.mono (by omega), fun g hg => (ownf.lt g hg).2, fun x hx => ⟨(owne x hx).by_.mono (by omega), (owne x hx).re.mono (by omega)⟩, hgR, hgT, hgO, by omega, by omega⟩
  have HER := Lib.hid her
  have HOA := Lib.hid ownA
  clear her hlen ownf ownd owne ownA hP hR hT hO h1 hb0
  replace hgO := Lib.hid hgO
  replace hgT := Lib.hid hgT
  replace hgR := Lib.hid hgR
  have hfd := partField0 qa qf.length qc qda qd.length qdc
  go_wp2
  clear hfd
  go_loopw [23] (fun i wr => ∃ (k : Nat) (z : Value), k ≤ qf.length ∧ i = .int .i64 k ∧ DA wr w.heap.size gR gT gO w1.heap.size #[.slice p.fa p.frs.length p.fc, .slice p.da p.dfs.length p.dc] ⟨qf, qd, qa, qc, qda, qdc⟩ z (keptUp l qf k) (toUp l qf k) ∧ Below w.heap.size w wr) (fun i _ => qf.length - (intOf i).toNat)
  case atStart => exact ⟨0, _, Nat.zero_le _, rfl, hDA, hb01⟩
  case round =>
    clear hDA hb01
    obtain ⟨k, z, hk, rfl, hA, hb⟩ := hrel
    by_cases hlt : k < qf.length
    · obtain ⟨x, hx⟩ : ∃ x, qf[k]? = some x := ⟨_, List.getElem?_eq_getElem hlt⟩
      obtain ⟨b, off, rfl, bl, c0, c1, c2, c3, c4, c5⟩ := fg_get (Reads.of_own hA.hq) hx
      obtain ⟨Az, cz, rfl, hz1, hz2⟩ := own_form hA.hz
      have kl := keptUp_le l qf k
      have tl := toUp_len l qf hk
      have e2 : gT ≠ gO := by have := hA.e2; have := hA.e3; omega
      have e3 : gT < w1.heap.size ∧ gO < w1.heap.size ∧ w.heap.size ≤ gT ∧ w.heap.size < gO := by have := hA.e2; have := hA.e3; have := hA.b1; omega
      obtain ⟨e4, e5, e6, e7⟩ := e3
      have b2 := hA.b2
      have HX := Lib.hid hx
      have HS : Hid (∀ v, (v = if x.f.gone l then (-1 : Int) else ((keptUp l qf k).length : Int)) → (toUp l qf k).set k v = toUp l qf (k + 1)) := toUp_set hx
      have HI : Hid (x.f.gone l = false → keptUp l qf (k + 1) = keptUp l qf k ++ [x]) := keptUp_in hx
      have HU : Hid (x.f.gone l = true → keptUp l qf (k + 1) = keptUp l qf k) := keptUp_out hx
      clear hx
      obtain ⟨K, hK⟩ : ∃ K, keptUp l qf k = K := ⟨_, rfl⟩
      obtain ⟨T, hTT⟩ : ∃ T, toUp l qf k = T := ⟨_, rfl⟩
      rw [hK] at hA kl HS HI HU
      rw [hTT] at hA tl HS
      clear hK hTT
      obtain ⟨t, ht⟩ : ∃ t, T[k]? = some t := ⟨_, List.getElem?_eq_getElem (by omega)⟩
      have dT : wr.cell? ⟨gT, k, none⟩ = some (.int .i64 t) := by rw [hA.hT.cell]; simp [intsV, ht, intV]
      have fT := hA.hT.frozen k
      clear ht
      have z1 : gT < wr.heap.size := by omega
      have z2 : gO < wr.heap.size := by omega
      have kp : k < p.frs.length := by omega
      go_upto_region 7 with (fail)
      have hA2 := (hA.setT k (-1)).alloc (.cells #[.int .i64 x.f.sect, .int .i64 x.f.align, .string x.f.group, .slice x.ba x.f.bs.length x.bc, .int .i64 x.f.size, .slice x.ra x.f.rs.length x.rc] 92)
      have hF2 := Blk.new' (wr.setCell ⟨gT, k, none⟩ (.int .i64 (-1))) 92 #[.int .i64 x.f.sect, .int .i64 x.f.align, .string x.f.group, .slice x.ba x.f.bs.length x.bc, .int .i64 x.f.size, .slice x.ra x.f.rs.length x.rc] (g := wr.heap.size) (by simp [World.setCell])
      have hb2 := (hb.setCell (p := ⟨gT, k, none⟩) (by simp only; omega) (.int .i64 (-1))).alloc (by simpa [World.setCell] using hb.size) (.cells #[.int .i64 x.f.sect, .int .i64 x.f.align, .string x.f.group, .slice x.ba x.f.bs.length x.bc, .int .i64 x.f.size, .slice x.ra x.f.rs.length x.rc] 92)
      obtain ⟨W2, hW2⟩ : ∃ W, W = (wr.setCell ⟨gT, k, none⟩ (.int .i64 (-1))).alloc (.cells #[.int .i64 x.f.sect, .int .i64 x.f.align, .string x.f.group, .slice x.ba x.f.bs.length x.bc, .int .i64 x.f.size, .slice x.ra x.f.rs.length x.rc] 92) := ⟨_, rfl⟩
      have z3 : wr.heap.size < W2.heap.size := by rw [hW2]; simp [World.setCell]
      rw [← hW2] at hA2 hF2 hb2 ⊢
      clear hW2 hA hb dT fT c0 c1 c2 c3 c4 c5
      have g2 := hF2.cell 2
      have dT : W2.cell? ⟨gT, k, none⟩ = some (.int .i64 (-1)) := by rw [hA2.hT.cell]; simp [intsV, intV, tl, hlt]
      have fT := hA2.hT.frozen k
      have dO := hA2.hO.cell 0
      have fO := hA2.hO.frozen 0
      rcases Nat.eq_zero_or_pos x.f.group.size with h0 | h0
      · have hg := gone_no (l := l) (.inl h0)
        replace hg := hg
        have ht1 := toList_nil h0
        clear h0
        (go_upto_region 9 with (fail); have hA3 := hA2.setT k (K.length : Int); rw [List.set_set, HS.out _ (by rw [hg]; rfl)] at hA3; have hF3 := hF2.far (p := ⟨gT, k, none⟩) (by simp only; omega) (.int .i64 (K.length : Int)); have hb3 := hb2.setCell (p := ⟨gT, k, none⟩) (by simp only; omega) (.int .i64 (K.length : Int)); obtain ⟨W3, hW3⟩ : ∃ W, W = W2.setCell ⟨gT, k, none⟩ (.int .i64 (K.length : Int)) := ⟨_, rfl⟩; rw [← hW3] at hA3 hF3 hb3 ⊢; clear hW3 hA2 hF2 hb2 dT fT dO fO g2; have dO := hA3.hO.cell 0; have fO := hA3.hO.frozen 0; have g0 := hF3.cell 0; have g1 := hF3.cell 1; have g2 := hF3.cell 2; have g3 := hF3.cell 3; have g4 := hF3.cell 4; have g5 := hF3.cell 5; have b3 := hA3.b2; go_wp2_with (at_builtin; refine wpList_append_own _ rfl (.tmp 48) (.tmp 50) 22 rfl w1.heap.size 92 i0 _ 6 88 Tryd.underlying22 hi hiz his hib rfl (by decide) _ _ _ rfl (hA3.hz.alloc _) ⟨W3.heap.size, 0, none⟩ 1 1 [.int .i64 x.f.sect, .int .i64 x.f.align, .string x.f.group, .slice x.ba x.f.bs.length x.bc, .int .i64 x.f.size, .slice x.ra x.f.rs.length x.rc] rfl rfl ?c1 ?c2 ?c3 ?c4 ?c5 ?_; (case c1 => exact fun j u hu => cells_new j u hu); (case c2 => exact fg_one x); (case c3 => unfold maxLen; omega); (case c4 => omega); (case c5 => simp; omega); intro v' w5 hown5 hg5 _; obtain ⟨A5, c5, rfl, hc5, hd5⟩ := own_form hown5; have hA5 := (hA3.alloc _).push hg5 hown5; have hb5 := (hA3.alloc _).below (v' := .slice A5 (K.length + 1) c5) (hb3.alloc hb3.size _) hg5; have hO5 := (hA3.alloc _).hO5 hg5; have dO5 := hO5.cell 0; have fO5 := hO5.frozen 0; clear hg5 hown5 g0 g1 g2 g3 g4 g5); go_roundw; (case rel => exact ⟨k + 1, _, by omega, by go_num, by rw [HI.out hg]; exact hA5, hb5⟩); (case measure => simp [intOf]; omega))
      · have ht1 := toList_one h0
        have ht1' := toList_some h0
        by_cases hm : x.f.group ∈ l
        · have hg := gone_yes (by omega) hm
          have HM := Lib.hid (decide_eq_true hm)
          clear h0 hm
          go_wp2_with ((go_at_call 18; refine (containsStr_any A c l x.f.group _ (by exact (hl.below hb2).more hb2.size) hlm).mono ?_; rintro e w' ⟨rfl, rfl⟩; rw [HM.out]))
          go_roundw
          case rel => exact ⟨k + 1, _, by omega, by go_num, by rw [HU.out hg, ← HS.out (-1) (by rw [hg]; rfl)]; exact hA2, hb2⟩
          case measure => simp [intOf]; omega
        · have hg := gone_no (.inr hm)
          have HM := Lib.hid (decide_eq_false hm)
          clear h0 hm
          (go_upto_region 9 with ((go_at_call 18; refine (containsStr_any A c l x.f.group _ (by exact (hl.below hb2).more hb2.size) hlm).mono ?_; rintro e w' ⟨rfl, rfl⟩; rw [HM.out])); have hA3 := hA2.setT k (K.length : Int); rw [List.set_set, HS.out _ (by rw [hg]; rfl)] at hA3; have hF3 := hF2.far (p := ⟨gT, k, none⟩) (by simp only; omega) (.int .i64 (K.length : Int)); have hb3 := hb2.setCell (p := ⟨gT, k, none⟩) (by simp only; omega) (.int .i64 (K.length : Int)); obtain ⟨W3, hW3⟩ : ∃ W, W = W2.setCell ⟨gT, k, none⟩ (.int .i64 (K.length : Int)) := ⟨_, rfl⟩; rw [← hW3] at hA3 hF3 hb3 ⊢; clear hW3 hA2 hF2 hb2 dT fT dO fO g2; have dO := hA3.hO.cell 0; have fO := hA3.hO.frozen 0; have g0 := hF3.cell 0; have g1 := hF3.cell 1; have g2 := hF3.cell 2; have g3 := hF3.cell 3; have g4 := hF3.cell 4; have g5 := hF3.cell 5; have b3 := hA3.b2; go_wp2_with (at_builtin; refine wpList_append_own _ rfl (.tmp 48) (.tmp 50) 22 rfl w1.heap.size 92 i0 _ 6 88 Tryd.underlying22 hi hiz his hib rfl (by decide) _ _ _ rfl (hA3.hz.alloc _) ⟨W3.heap.size, 0, none⟩ 1 1 [.int .i64 x.f.sect, .int .i64 x.f.align, .string x.f.group, .slice x.ba x.f.bs.length x.bc, .int .i64 x.f.size, .slice x.ra x.f.rs.length x.rc] rfl rfl ?c1 ?c2 ?c3 ?c4 ?c5 ?_; (case c1 => exact fun j u hu => cells_new j u hu); (case c2 => exact fg_one x); (case c3 => unfold maxLen; omega); (case c4 => omega); (case c5 => simp; omega); intro v' w5 hown5 hg5 _; obtain ⟨A5, c5, rfl, hc5, hd5⟩ := own_form hown5; have hA5 := (hA3.alloc _).push hg5 hown5; have hb5 := (hA3.alloc _).below (v' := .slice A5 (K.length + 1) c5) (hb3.alloc hb3.size _) hg5; have hO5 := (hA3.alloc _).hO5 hg5; have dO5 := hO5.cell 0; have fO5 := hO5.frozen 0; clear hg5 hown5 g0 g1 g2 g3 g4 g5); go_roundw; (case rel => exact ⟨k + 1, _, by omega, by go_num, by rw [HI.out hg]; exact hA5, hb5⟩); (case measure => simp [intOf]; omega))
    · obtain rfl : k = qf.length := by omega
      have kl := keptUp_le l qf qf.length
      have hTO : Hid (toUp l qf qf.length = toOf l p.er.frs) := by show _ = _; rw [toUp_all, ← HER.out]; rfl
      have hTL : (toUp l qf qf.length).length = qf.length := toUp_len l qf (Nat.le_refl _)
      have hKK : Hid (∀ x ∈ keptUp l qf qf.length, x ∈ qf) := fun x hx => List.mem_of_mem_take (List.mem_filter.1 hx).1
      have hKE : Hid ((keptUp l qf qf.length).map FgM.f = keepF l p.er.frs) := by
        show _ = _
        rw [← HER.out]
        unfold keptUp keepF PtM.er
        rw [List.take_length, List.filter_map]; rfl
      have hAp : ApartR (keptUp l qf qf.length) := List.Pairwise.sublist (by unfold keptUp; rw [List.take_length]; exact List.filter_sublist ..) HOA.out
      have hB := hA.to_db hKK.out hAp
      replace hAp := Lib.hid hAp
      obtain ⟨Az, cz, rfl, hz1, hz2⟩ := own_form hA.hz
      have e2 : gT ≠ gO := by have := hA.e2; have := hA.e3; omega
      have e3 : w.heap.size ≤ gT ∧ w.heap.size < gO := by have := hA.e2; have := hA.e3; omega
      obtain ⟨e6, e7⟩ := e3
      clear hA
      obtain ⟨K, hK⟩ : ∃ K, keptUp l qf qf.length = K := ⟨_, rfl⟩
      obtain ⟨T, hTT⟩ : ∃ T, toUp l qf qf.length = T := ⟨_, rfl⟩
      rw [hK] at hB kl hKK hKE hAp hz1
      rw [hTT] at hB hTO hTL
      clear hK hTT
      have dO := hB.hO.cell 0
      go_wp2_with fail
      clear dO
      go_loopw [57] (fun i wr => ∃ (k : Nat) (K' : List FgM), k ≤ K.length ∧ i = .int .i64 k ∧ Hid (K' = (K.take k).map (FgM.mapR (Rel.re T)) ++ K.drop k) ∧ DB wr w.heap.size gR gT gO #[.slice p.fa p.frs.length p.fc, .slice p.da p.dfs.length p.dc] (.slice Az K.length cz) (.slice none 0 0) K' [] T ∧ Below w.heap.size w wr) (fun i _ => K.length - (intOf i).toNat)
      case atStart => exact ⟨0, K, Nat.zero_le _, rfl, Lib.hid (by simp), hB, hb⟩
      case round =>
        clear hB hb
        obtain ⟨k, K', hk, rfl, hK', hB, hb⟩ := hrel
        obtain ⟨wo, hwo⟩ : ∃ wo, wo = wr := ⟨_, rfl⟩
        subst hwo
        by_cases hlt : k < K.length
        · obtain ⟨x, hx⟩ : ∃ x, K[k]? = some x := ⟨_, List.getElem?_eq_getElem hlt⟩
          have hxm := hKK.out x (List.mem_of_getElem? hx)
          obtain ⟨y, hym, hyf⟩ : ∃ y, y ∈ p.frs ∧ y.f = x.f := by
            have e : (qf.map FgM.f) = p.frs.map FgM.f := congrArg Prt.frs HER.out
            have : x.f ∈ p.frs.map FgM.f := by rw [← e]; exact List.mem_map_of_mem hxm
            simpa using this
          have hx8 : x.f.rs.length ≤ 8 := by rw [← hyf]; exact hs.re y hym
          have hxok : Hid (∀ r ∈ x.f.rs, r.okIn p.frs.length) := fun r hr => by
            have := hok.right.rel x.f (by rw [← hyf]; exact List.mem_map_of_mem hym) r hr
            rwa [show p.er.frs.length = p.frs.length by simp [PtM.er]] at this
          clear hym hyf hxm y
          obtain ⟨K1, hK1⟩ : ∃ K1, (K.take k).map (FgM.mapR (Rel.re T)) = K1 := ⟨_, rfl⟩
          obtain ⟨K2, hK2⟩ : ∃ K2, K.drop (k + 1) = K2 := ⟨_, rfl⟩
          have hk1 : K1.length = k := by rw [← hK1]; simp; omega
          have hsp : K' = K1 ++ x :: K2 := by
            obtain ⟨hk', hv⟩ := List.getElem?_eq_some_iff.1 hx
            rw [hK'.out, List.drop_eq_getElem_cons hk', hv, hK1, hK2]
          have hkl : (K1 ++ x :: K2).length = K.length := by
            rw [← hK1, ← hK2]; simp; omega
          have HN : Hid (K1 ++ x.mapR (Rel.re T) :: K2 = (K.take (k + 1)).map (FgM.mapR (Rel.re T)) ++ K.drop (k + 1)) := by
            show _ = _
            rw [List.take_add_one, hx, List.map_append, hK1, hK2]; simp
          subst hsp
          clear hK' hK1 hK2 hx
          have hRd : Reads wo wo.heap.size 6 Az (K1 ++ x :: K2).length (fgsV (K1 ++ x :: K2)) := by
            have := hB.hz
            rw [hkl] at this ⊢
            exact Reads.of_own this
          obtain ⟨b, off, rfl, bl, c0, c1, c2, c3, c4, c5⟩ := fg_get hRd (show (K1 ++ x :: K2)[k]? = some x by rw [List.getElem?_append_right (by omega), hk1, Nat.sub_self]; rfl)
          replace hk1 := Lib.hid hk1
          replace hkl := Lib.hid hkl
          clear hRd
          go_upto_region 14 with (fail)
          have hB2 := hB.alloc (.cells #[.int .i64 x.f.sect, .int .i64 x.f.align, .string x.f.group, .slice x.ba x.f.bs.length x.bc, .int .i64 x.f.size, .slice x.ra x.f.rs.length x.rc] 92)
          have hF2 := Blk.new wo 92 #[.int .i64 x.f.sect, .int .i64 x.f.align, .string x.f.group, .slice x.ba x.f.bs.length x.bc, .int .i64 x.f.size, .slice x.ra x.f.rs.length x.rc]
          have hb2 := hb.alloc hb.size (.cells #[.int .i64 x.f.sect, .int .i64 x.f.align, .string x.f.group, .slice x.ba x.f.bs.length x.bc, .int .i64 x.f.size, .slice x.ra x.f.rs.length x.rc] 92)
          have bf := hB.b2
          have ga : gR < wo.heap.size ∧ gT < wo.heap.size ∧ gO < wo.heap.size := by have := hB.e1; have := hB.e2; have := hB.e3; omega
          obtain ⟨ga, gb, gc⟩ := ga
          have gd : wo.heap.size < (wo.alloc (.cells #[.int .i64 x.f.sect, .int .i64 x.f.align, .string x.f.group, .slice x.ba x.f.bs.length x.bc, .int .i64 x.f.size, .slice x.ra x.f.rs.length x.rc] 92)).heap.size := by simp
          obtain ⟨W2, hW2⟩ : ∃ W, W = wo.alloc (.cells #[.int .i64 x.f.sect, .int .i64 x.f.align, .string x.f.group, .slice x.ba x.f.bs.length x.bc, .int .i64 x.f.size, .slice x.ra x.f.rs.length x.rc] 92) := ⟨_, rfl⟩
          rw [← hW2] at hB2 hF2 hb2 gd ⊢
          clear hW2 hB hb c0 c1 c2 c3 c4 c5 bl
          have d5 := hF2.cell 5
          go_wp2_with fail
          clear d5
          go_loopw [64] (fun i wr => ∃ j : Nat, j ≤ x.f.rs.length ∧ i = .int .i64 j ∧ DB wr w.heap.size gR gT gO #[.slice p.fa p.frs.length p.fc, .slice p.da p.dfs.length p.dc] (.slice (some ⟨b, off, none⟩) K.length cz) (.slice none 0 0) (K1 ++ x.withR ((x.f.rs.take j).map (Rel.re T) ++ x.f.rs.drop j) :: K2) [] T ∧ Blk wr wo.heap.size 92 #[.int .i64 x.f.sect, .int .i64 x.f.align, .string x.f.group, .slice x.ba x.f.bs.length x.bc, .int .i64 x.f.size, .slice x.ra x.f.rs.length x.rc] ∧ Below w.heap.size w wr) (fun i _ => x.f.rs.length - (intOf i).toNat)
          case atStart => exact ⟨0, Nat.zero_le _, rfl, hB2, hF2, hb2⟩
          case round =>
            clear hB2 hF2 hb2
            obtain ⟨j, hj, rfl, hBi, hFi, hbi⟩ := hrel
            by_cases hjl : j < x.f.rs.length
            · obtain ⟨r, hr⟩ : ∃ r, x.f.rs[j]? = some r := ⟨_, List.getElem?_eq_getElem hjl⟩
              have hro := hxok.out r (List.mem_of_getElem? hr)
              obtain ⟨R1, hR1⟩ : ∃ R1, (x.f.rs.take j).map (Rel.re T) = R1 := ⟨_, rfl⟩
              obtain ⟨R2, hR2⟩ : ∃ R2, x.f.rs.drop (j + 1) = R2 := ⟨_, rfl⟩
              have hr1 : R1.length = j := by rw [← hR1]; simp; omega
              have hsp : (x.f.rs.take j).map (Rel.re T) ++ x.f.rs.drop j = R1 ++ r :: R2 := by
                obtain ⟨hk', hv⟩ := List.getElem?_eq_some_iff.1 hr
                rw [List.drop_eq_getElem_cons hk', hv, hR1, hR2]
              have HJ : Hid ((x.f.rs.take (j + 1)).map (Rel.re T) ++ x.f.rs.drop (j + 1) = R1 ++ r.re T :: R2) := by
                show _ = _
                rw [List.take_add_one, hr, List.map_append, hR1, hR2]; simp
              have hrl : (R1 ++ r :: R2).length = x.f.rs.length := by
                rw [← hR1, ← hR2]; simp; omega
              rw [hsp] at hBi
              have hxo := (hBi.each (x.withR (R1 ++ r :: R2)) (by simp)).re
              obtain ⟨g, cap, hv, hg0, hg1⟩ := hxo.form (by show 0 < (R1 ++ r :: R2).length; omega)
              have hra : x.ra = some ⟨g, 0, none⟩ := by
                have h2 : Value.slice x.ra (R1 ++ r :: R2).length x.rc = .slice (some ⟨g, 0, none⟩) (R1 ++ r :: R2).length cap := hv
                injection h2
              have hRd : Reads wr wr.heap.size 5 x.ra (R1 ++ r :: R2).length (relsV (R1 ++ r :: R2)) := Reads.of_own (show wr.ownsRow _ _ _ (.slice x.ra (R1 ++ r :: R2).length x.rc) _ _ from hxo)
              obtain ⟨g', o', he', bl', c0, c1, c2, c3, c4⟩ := rel_get hRd (show (R1 ++ r :: R2)[j]? = some r by rw [List.getElem?_append_right (by omega), hr1, Nat.sub_self]; rfl)
              obtain ⟨rfl, rfl⟩ : g' = g ∧ o' = 0 := by
                rw [hra] at he'
                injection he' with he'
                injection he' with h1 h2
                exact ⟨h1.symm, h2.symm⟩
              rw [Nat.zero_add] at c0 c1 c2 c3 c4
              have gne : g' ≠ wo.heap.size := fun e => own_blk_ne hxo hFi (by decide) (by rw [hv, e]; rfl)
              have gn2 : g' ≠ gT := fun e => own_blk_ne hxo hBi.hT (by decide) (by rw [hv, e]; rfl)
              replace hr1 := Lib.hid hr1
              replace hrl := Lib.hid hrl
              have HRA := Lib.hid hra
              clear hxo hRd hv hsp hR1 hR2 hr he'
              rw [hra]
              go_upto_region 17 with (fail)
              have hB3 := hBi.alloc (.cells #[.int .i64 r.at_, .int .i64 r.kind, .string r.name, .int .i64 r.frag, .int .i64 r.add] 94)
              have hF3 := hFi.alloc (.cells #[.int .i64 r.at_, .int .i64 r.kind, .string r.name, .int .i64 r.frag, .int .i64 r.add] 94)
              have hX3 := Blk.new wr 94 #[.int .i64 r.at_, .int .i64 r.kind, .string r.name, .int .i64 r.frag, .int .i64 r.add]
              have hb3 := hbi.alloc hbi.size (.cells #[.int .i64 r.at_, .int .i64 r.kind, .string r.name, .int .i64 r.frag, .int .i64 r.add] 94)
              have q3 : (wr.alloc (.cells #[.int .i64 r.at_, .int .i64 r.kind, .string r.name, .int .i64 r.frag, .int .i64 r.add] 94)).cell? ⟨g', j * 5 + 3, none⟩ = some (.int .i64 r.frag) := by
                rw [World.cell?_alloc_lt _ _ _ (by simpa using bl')]; exact c3
              have q3f : (wr.alloc (.cells #[.int .i64 r.at_, .int .i64 r.kind, .string r.name, .int .i64 r.frag, .int .i64 r.add] 94)).frozen? ⟨g', j * 5 + 3, none⟩ = false := by
                have h2 : (wr.alloc (.cells #[.int .i64 r.at_, .int .i64 r.kind, .string r.name, .int .i64 r.frag, .int .i64 r.add] 94)).ownsRow w.heap.size 94 5 (.slice x.ra (R1 ++ r :: R2).length x.rc) (R1 ++ r :: R2).length (relsV (R1 ++ r :: R2)) := (hB3.each (x.withR (R1 ++ r :: R2)) (by simp)).re
                rw [HRA.out] at h2
                exact h2.frozenAt _
              have glt : g' < wr.heap.size := bl'
              have wlt : wo.heap.size < wr.heap.size := hFi.lt
              obtain ⟨W3, hW3⟩ : ∃ W, W = wr.alloc (.cells #[.int .i64 r.at_, .int .i64 r.kind, .string r.name, .int .i64 r.frag, .int .i64 r.add] 94) := ⟨_, rfl⟩
              rw [← hW3] at hB3 hF3 hX3 hb3 q3 q3f ⊢
              clear hW3 hBi hFi hbi c0 c1 c2 c3 c4 bl'
              have x2 := hX3.cell 2
              have x3 := hX3.cell 3
              rw [HRA.out] at hF3
              by_cases hre : r.name.size = 0 ∧ 0 ≤ r.frag
              · obtain ⟨hn0, hf0⟩ := hre
                obtain ⟨rf, hrf⟩ : ∃ n : Nat, r.frag = n := ⟨r.frag.toNat, by omega⟩
                have hrl2 : rf < p.frs.length := by have := (hro hn0).2; omega
                obtain ⟨t, ht⟩ : ∃ t, T[rf]? = some t := ⟨_, List.getElem?_eq_getElem (by omega)⟩
                have dT : W3.cell? ⟨gT, rf, none⟩ = some (.int .i64 t) := by rw [hB3.hT.cell]; simp [intsV, ht, intV]
                have f5 := hF3.cell 5
                have HRE : Hid (r.re T = { r with frag := t }) := Rel.re_at ⟨hn0, hf0⟩ (by rw [hrf, Int.toNat_natCast, List.getD_eq_getElem?_getD, ht]; rfl)
                have tn := toList_nil hn0
                have t0 : decide ((0 : Int) ≤ (rf : Int)) = true := by simp
                rw [hrf] at x3 q3
                replace hrf := Lib.hid hrf
                clear hn0 hf0 hro ht
                go_upto_region 18 with (fail)
                go_region
                go_wp2
                go_roundw
                case rel =>
                  have h5 := (hB3.setR (x := x.withR (R1 ++ r :: R2)) (g := g') rfl HRA.out t).drew
                  rw [hr1.out] at h5
                  refine ⟨j + 1, by omega, by go_num, ?_, (hF3.far (p := ⟨g', j * 5 + 3, none⟩) (by simp only; omega) _).drew, ?_⟩
                  · rw [HJ.out, HRE.out]; exact h5
                  · exact Below.drew (hb3.setCell (p := ⟨g', j * 5 + 3, none⟩) (by simp only; omega) _)
                case measure => simp [intOf]; omega
              · have HRE : Hid (r.re T = r) := if_neg hre
                rcases Nat.eq_zero_or_pos r.name.size with hn0 | hn0
                · have tn := toList_nil hn0
                  have t0 : decide ((0 : Int) ≤ r.frag) = false := decide_eq_false fun h0 => hre ⟨hn0, h0⟩
                  clear hn0 hre hro
                  (go_wp2; go_roundw; (case rel => exact ⟨j + 1, by omega, by go_num, by rw [HJ.out, HRE.out]; exact hB3, hF3, hb3⟩); (case measure => simp [intOf]; omega))
                · have tn := toList_one hn0
                  have tn' := toList_some hn0
                  clear hn0 hre hro
                  (go_wp2; go_roundw; (case rel => exact ⟨j + 1, by omega, by go_num, by rw [HJ.out, HRE.out]; exact hB3, hF3, hb3⟩); (case measure => simp [intOf]; omega))
            · obtain rfl : j = x.f.rs.length := by omega
              have hE : x.withR ((x.f.rs.take x.f.rs.length).map (Rel.re T) ++ x.f.rs.drop x.f.rs.length) = x.mapR (Rel.re T) := by
                rw [List.take_length, List.drop_length, List.append_nil]; rfl
              rw [hE] at hBi
              go_wp2
              go_roundw
              case rel => exact ⟨k + 1, _, by omega, by go_num, HN, hBi, hbi⟩
              case measure => simp [intOf]; omega
        · obtain rfl : k = K.length := by omega
          have hKm : K' = K.map (FgM.mapR (Rel.re T)) := by rw [hK'.out, List.take_length, List.drop_length, List.append_nil]
          subst hKm
          obtain ⟨hpf, hpe, hpd, hpfm, hpdm⟩ := h
          obtain ⟨j0, hj, hjz, hjs, hjb⟩ := info_parts Tryd.infoDefs
          have hd60 := hs.df
          have HDO : Hid (∀ d ∈ p.dfs, d.okIn p.frs.length) := fun d hd => by
            have := hok.right.df d hd
            rwa [show p.er.frs.length = p.frs.length by simp [PtM.er]] at this
          have HEND : Hid ((K.map (FgM.mapR (Rel.re T))).map FgM.f = (dropP p.er l).frs ∧ reDfs T p.dfs = (dropP p.er l).dfs) := by
            refine ⟨?_, ?_⟩
            · rw [dropP_frs, ← hTO.out, ← hKE.out, List.map_map, List.map_map]; rfl
            · rw [dropP_dfs, ← hTO.out]; rfl
          have HTB : Hid (∀ n : Nat, n < p.frs.length → ∃ t, T[n]? = some t) := fun n hn => ⟨_, List.getElem?_eq_getElem (by omega)⟩
          obtain ⟨K3, hK3⟩ : ∃ K3, K.map (FgM.mapR (Rel.re T)) = K3 := ⟨_, rfl⟩
          have hK3l : K3.length = K.length := by rw [← hK3, List.length_map]
          rw [hK3] at hB HEND
          rw [← hK3l] at hB
          have e1' : gR < gT := by have := hB.e1; have := hB.e2; omega
          clear hK' hK3 hKK hKE hAp hTO HER HOA
          have dP := hB.hP.cell 1
          go_wp2_with fail
          clear dP
          go_loopw [92] (fun i wr => ∃ (k : Nat) (y : Value) (D : List Df), k ≤ p.dfs.length ∧ i = .int .i64 k ∧ Hid (D = reDfs T (p.dfs.take k)) ∧ DB wr w.heap.size gR gT gO #[.slice p.fa p.frs.length p.fc, .slice p.da p.dfs.length p.dc] (.slice Az K3.length cz) y K3 D T ∧ Below w.heap.size w wr) (fun i _ => p.dfs.length - (intOf i).toNat)
          case atStart => exact ⟨0, _, [], Nat.zero_le _, rfl, Lib.hid (by simp [reDfs]), hB, hb⟩
          case round =>
            clear hB hb
            obtain ⟨k, y, D, hk, rfl, hD, hB, hb⟩ := hrel
            obtain ⟨Ay, cy, rfl, hy1, hy2⟩ := own_form hB.hy
            have hDl : D.length ≤ 60 := by
              rw [hD.out]
              refine Nat.le_trans (List.length_filter_le ..) ?_
              rw [List.length_map, List.length_take]; omega
            have e1 : gR < wr.heap.size ∧ gT < wr.heap.size ∧ gO < wr.heap.size := by have := hB.e1; have := hB.e2; have := hB.e3; have := hB.b2; omega
            obtain ⟨ga, gb, gc⟩ := e1
            by_cases hlt : k < p.dfs.length
            · obtain ⟨d, hd⟩ : ∃ d, p.dfs[k]? = some d := ⟨_, List.getElem?_eq_getElem hlt⟩
              obtain ⟨b, off, hda, bl, c0, c1, c2, c3, c4, c5⟩ := df_get (hpd.below hb) hd
              have hdo := HDO.out d (List.mem_of_getElem? hd)
              have HD : Hid (reDfs T (p.dfs.take (k + 1)) = reDfs T (p.dfs.take k) ++ reDfs T [d]) := by show _ = _; rw [List.take_add_one, hd, reDfs_append]; rfl
              have HDA := Lib.hid hda
              clear hd
              rw [hda]
              go_upto_region 24 with (fail)
              have hB2 := hB.alloc (.cells #[.string d.name, .int .i64 d.kind, .int .i64 d.frag, .int .i64 d.at_, .int .i64 d.size, .int .i64 d.align] 31)
              have hF2 := Blk.new wr 31 #[.string d.name, .int .i64 d.kind, .int .i64 d.frag, .int .i64 d.at_, .int .i64 d.size, .int .i64 d.align]
              have hb2 := hb.alloc hb.size (.cells #[.string d.name, .int .i64 d.kind, .int .i64 d.frag, .int .i64 d.at_, .int .i64 d.size, .int .i64 d.align] 31)
              have gd : wr.heap.size < (wr.alloc (.cells #[.string d.name, .int .i64 d.kind, .int .i64 d.frag, .int .i64 d.at_, .int .i64 d.size, .int .i64 d.align] 31)).heap.size := by simp
              have hyn : (Value.slice Ay D.length cy).ownBlock ≠ some wr.heap.size := fun e => by have := (hB.hy.lt _ e).2; omega
              have b0 := hB.b2
              obtain ⟨W2, hW2⟩ : ∃ W, W = wr.alloc (.cells #[.string d.name, .int .i64 d.kind, .int .i64 d.frag, .int .i64 d.at_, .int .i64 d.size, .int .i64 d.align] 31) := ⟨_, rfl⟩
              rw [← hW2] at hB2 hF2 hb2 gd ⊢
              clear hW2 hB hb c0 c1 c2 c3 c4 c5 bl
              by_cases hk3 : d.kind = 3
              · have kf : (d.kind != 3) = false := by simp [hk3]
                have hf0 := hdo.1 hk3
                have HQ : Hid (reDfs T [d] = [{ d with frag := 0 }]) := by
                  have : d.re T = d := Df.re_common T hk3
                  have h2 : 0 ≤ (d.re T).frag := by rw [this]; omega
                  show reDfs T [d] = _
                  rw [reDfs_cons_in h2, this, ← hf0]; rfl
                have hB3 := hB2
                have hF3 := hF2
                rw [hf0] at hF3
                have hb3 := hb2
                have gd3 := gd
                clear hB2 hF2 hb2 gd hf0 hk3 hdo hyn
                obtain ⟨W3, hW3⟩ : ∃ W, W = W2 := ⟨_, rfl⟩
                rw [← hW3] at hB3 hF3 hb3 gd3 ⊢
                clear hW3
                have dO := hB3.hO.cell 1
                have fO := hB3.hO.frozen 1
                have g0 := hF3.cell 0
                have g1 := hF3.cell 1
                have g2 := hF3.cell 2
                have g3 := hF3.cell 3
                have g4 := hF3.cell 4
                have g5 := hF3.cell 5
                have b3 := hB3.b2
                (go_wp2_with (at_builtin; refine wpList_append_own _ rfl (.tmp 109) (.tmp 111) 23 rfl w.heap.size 31 j0 _ 6 56 Tryd.underlying23 hj hjz hjs hjb rfl (by decide) _ _ _ rfl (hB3.hy.alloc _) ⟨W3.heap.size, 0, none⟩ 1 1 [.string d.name, .int .i64 d.kind, .int .i64 0, .int .i64 d.at_, .int .i64 d.size, .int .i64 d.align] rfl rfl ?c1 ?c2 ?c3 ?c4 ?c5 ?_; (case c1 => exact fun j u hu => cells_new j u hu); (case c2 => exact df_one { d with frag := 0 }); (case c3 => unfold maxLen; omega); (case c4 => omega); (case c5 => simp; omega); intro v' w5 hown5 hg5 _; obtain ⟨A5, c5, rfl, hc5, hd5⟩ := own_form hown5; have hB5 := (hB3.alloc _).push (d := { d with frag := 0 }) hg5 hown5; have hb5 := (hB3.alloc _).below (v' := .slice A5 (D.length + 1) c5) (hb3.alloc hb3.size _) hg5; have hO5 := (hB3.alloc _).hO5 hg5; have dO5 := hO5.cell 1; have fO5 := hO5.frozen 1; clear hg5 hown5 g0 g1 g2 g3 g4 g5); go_roundw; (case rel => exact ⟨k + 1, _, D ++ [{ d with frag := 0 }], by omega, by go_num, Lib.hid (by rw [HD.out, hD.out, HQ.out]), by first | exact hB5 | (rw [HDA.out] at hB5; exact hB5), hb5⟩); (case measure => simp [intOf]; omega))
              · have kf : (d.kind != 3) = true := by simpa using hk3
                obtain ⟨hf0, hf1⟩ := hdo.2 hk3
                obtain ⟨n, hn⟩ : ∃ n : Nat, d.frag = n := ⟨d.frag.toNat, by omega⟩
                obtain ⟨t, ht⟩ := HTB.out n (by omega)
                have nlt : n < p.frs.length := by omega
                have HRE : Hid (d.re T = { d with frag := t }) := Df.re_at hk3 (by rw [hn, Int.toNat_natCast, List.getD_eq_getElem?_getD, ht]; rfl)
                have dT : W2.cell? ⟨gT, n, none⟩ = some (.int .i64 t) := by rw [hB2.hT.cell]; simp [intsV, ht, intV]
                have f1 := hF2.cell 1
                have f2 := hF2.cell 2
                have f2f := hF2.frozen 2
                rw [hn] at f2
                replace hn := Lib.hid hn
                clear ht hf0 hf1 hk3 hdo
                go_upto_region 26 with (fail)
                have hF3 : Blk (W2.setCell ⟨wr.heap.size, 2, none⟩ (.int .i64 t)) wr.heap.size 31 #[.string d.name, .int .i64 d.kind, .int .i64 t, .int .i64 d.at_, .int .i64 d.size, .int .i64 d.align] := hF2.set_ 2 (.int .i64 t)
                have hB3 := hB2.box (j := 2) hF2 b0 hyn (.int .i64 t)
                have hb3 := hb2.setCell (p := ⟨wr.heap.size, 2, none⟩) (by simp only; omega) (.int .i64 t)
                have gd3 : wr.heap.size < (W2.setCell ⟨wr.heap.size, 2, none⟩ (.int .i64 t)).heap.size := by simpa [World.setCell] using gd
                obtain ⟨W3, hW3⟩ : ∃ W, W = W2.setCell ⟨wr.heap.size, 2, none⟩ (.int .i64 t) := ⟨_, rfl⟩
                rw [← hW3] at hB3 hF3 hb3 gd3 ⊢
                clear hW3 hB2 hF2 hb2 gd f1 f2 f2f dT hyn
                have dO := hB3.hO.cell 1
                have fO := hB3.hO.frozen 1
                have g0 := hF3.cell 0
                have g1 := hF3.cell 1
                have g2 := hF3.cell 2
                have g3 := hF3.cell 3
                have g4 := hF3.cell 4
                have g5 := hF3.cell 5
                have b3 := hB3.b2
                by_cases ht0 : 0 ≤ t
                · have HQ : Hid (reDfs T [d] = [{ d with frag := t }]) := by
                    have h2 : 0 ≤ (d.re T).frag := by rw [HRE.out]; exact ht0
                    show reDfs T [d] = _
                    rw [reDfs_cons_in h2, HRE.out]; rfl
                  have t0 : decide (0 ≤ t) = true := decide_eq_true ht0
                  clear ht0
                  (go_wp2_with (at_builtin; refine wpList_append_own _ rfl (.tmp 109) (.tmp 111) 23 rfl w.heap.size 31 j0 _ 6 56 Tryd.underlying23 hj hjz hjs hjb rfl (by decide) _ _ _ rfl (hB3.hy.alloc _) ⟨W3.heap.size, 0, none⟩ 1 1 [.string d.name, .int .i64 d.kind, .int .i64 t, .int .i64 d.at_, .int .i64 d.size, .int .i64 d.align] rfl rfl ?c1 ?c2 ?c3 ?c4 ?c5 ?_; (case c1 => exact fun j u hu => cells_new j u hu); (case c2 => exact df_one { d with frag := t }); (case c3 => unfold maxLen; omega); (case c4 => omega); (case c5 => simp; omega); intro v' w5 hown5 hg5 _; obtain ⟨A5, c5, rfl, hc5, hd5⟩ := own_form hown5; have hB5 := (hB3.alloc _).push (d := { d with frag := t }) hg5 hown5; have hb5 := (hB3.alloc _).below (v' := .slice A5 (D.length + 1) c5) (hb3.alloc hb3.size _) hg5; have hO5 := (hB3.alloc _).hO5 hg5; have dO5 := hO5.cell 1; have fO5 := hO5.frozen 1; clear hg5 hown5 g0 g1 g2 g3 g4 g5); go_roundw; (case rel => exact ⟨k + 1, _, D ++ [{ d with frag := t }], by omega, by go_num, Lib.hid (by rw [HD.out, hD.out, HQ.out]), by first | exact hB5 | (rw [HDA.out] at hB5; exact hB5), hb5⟩); (case measure => simp [intOf]; omega))
                · have HQ : Hid (reDfs T [d] = []) := by
                    have h2 : (d.re T).frag < 0 := by rw [HRE.out]; show t < 0; omega
                    show reDfs T [d] = _
                    rw [reDfs_cons_out h2]; rfl
                  have t0 : decide (0 ≤ t) = false := decide_eq_false ht0
                  clear ht0
                  go_wp2
                  go_roundw
                  case rel => exact ⟨k + 1, _, D, by omega, by go_num, Lib.hid (by rw [HD.out, hD.out, HQ.out, List.append_nil]), by first | exact hB3 | (rw [HDA.out] at hB3; exact hB3), hb3⟩
                  case measure => simp [intOf]; omega
            · obtain rfl : k = p.dfs.length := by omega
              have r0 := hB.hO.cell 0
              have r1 := hB.hO.cell 1
              have q0 := hB.hR.cell 0
              have q1 := hB.hR.cell 1
              have q2 := hB.hR.frozen 0
              have q3 := hB.hR.frozen 1
              have b3 := hB.b2
              have hD' : Hid (D = (dropP p.er l).dfs) := by
                have := hD.out
                rw [List.take_length] at this
                exact this.trans HEND.out.2
              have hw5 : Below w.heap.size w ((wr.setCell ⟨gR, 0, none⟩ (.slice Az K3.length cz)).setCell ⟨gR, 1, none⟩ (.slice Ay D.length cy)) := (hb.setCell (by have := hB.e1; simp only; omega) _).setCell (by have := hB.e1; simp only; omega) _
              have n1 := own_blk_ne hB.hz hB.hR (by decide)
              have n2 := own_blk_ne hB.hy hB.hR (by decide)
              have hO5 := own_setCell (own_setCell hB.hz n1 (.slice Az K3.length cz) (p := ⟨gR, 0, none⟩)) n1 (.slice Ay D.length cy) (p := ⟨gR, 1, none⟩)
              have hD5 := own_setCell (own_setCell hB.hy n2 (.slice Az K3.length cz) (p := ⟨gR, 0, none⟩)) n2 (.slice Ay D.length cy) (p := ⟨gR, 1, none⟩)
              have hE5 : ∀ x ∈ K3, x.Own ((wr.setCell ⟨gR, 0, none⟩ (.slice Az K3.length cz)).setCell ⟨gR, 1, none⟩ (.slice Ay D.length cy)) w.heap.size := fun x hx => ((hB.each x hx).blk hB.hR (by decide) (by decide) _).blk (hB.hR.set_ 0 _) (by decide) (by decide) _
              have hA5 := hB.apart
              have HR5 : Hid (PtM.Own ((wr.setCell ⟨gR, 0, none⟩ (.slice Az K3.length cz)).setCell ⟨gR, 1, none⟩ (.slice Ay D.length cy)) w.heap.size ⟨K3, D, Az, cz, Ay, cy⟩ ∧ PtM.er ⟨K3, D, Az, cz, Ay, cy⟩ = dropP p.er l) := by
                refine ⟨⟨hO5, hD5, hE5, hA5⟩, ?_⟩
                show Prt.mk (K3.map FgM.f) D = dropP p.er l
                rw [HEND.out.1, hD'.out]
              rw [hK3l] at hw5 HR5
              clear hO5 hD5 hE5 hA5 n1 n2 hB
              go_wp2
              refine bodyPost_ret (v := .agg #[.slice Az K.length cz, .slice Ay D.length cy]) (by simp [results, Tryd.results129, go_sem, q0, q1]) rfl ⟨⟨K3, D, Az, cz, Ay, cy⟩, by simp only [hK3l], HR5.out.1, HR5.out.2, hw5⟩
end Go.Proofs.YtokiekachlmigaaDoor
