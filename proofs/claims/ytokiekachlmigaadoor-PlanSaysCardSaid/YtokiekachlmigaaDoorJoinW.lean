/- part.Join, Drop, All: what they compute. -/
import Derived.Test.YtokiekachlmigaaDoorBC
import Derived.Test.YtokiekachlmigaaDoorDropW
set_option linter.all false
namespace Go.Proofs.YtokiekachlmigaaDoor
open Go.RowKit

def JoinIs (w : World) (r : Prt × Int) (e : Ending) (w' : World) : Prop :=
  ∃ p' : PtM, e = .returned (.tuple #[.agg #[.slice p'.fa p'.frs.length p'.fc, .slice p'.da p'.dfs.length p'.dc], .int .i64 r.2]) ∧ p'.Own w' w.heap.size ∧ p'.er = r.1 ∧ Below w.heap.size w w'
theorem nil_own (w : World) (B : Nat) : PtM.Own w B ⟨[], [], none, 0, none, 0⟩ := ⟨World.ownsRow_nil _ _ _ _, World.ownsRow_nil _ _ _ _, fun x hx => absurd hx (by simp), List.Pairwise.nil⟩
theorem twoIndex0 (A : Option Addr) (n c : Nat) (A' : Option Addr) (n' c' : Nat) (B : Option Addr) (m d : Nat) (B' : Option Addr) (m' d' : Nat) (w : World) : (Instr.index 184 (.agg #[.slice A n c, .slice A' n' c', .slice B m d, .slice B' m' d']) (.int .i64 0)).run Tryd.prog w = .ok (.agg #[.slice A n c, .slice A' n' c']) w := by kernel_rfl
theorem twoIndex1 (A : Option Addr) (n c : Nat) (A' : Option Addr) (n' c' : Nat) (B : Option Addr) (m d : Nat) (B' : Option Addr) (m' d' : Nat) (w : World) : (Instr.index 184 (.agg #[.slice A n c, .slice A' n' c', .slice B m d, .slice B' m' d']) (.int .i64 1)).run Tryd.prog w = .ok (.agg #[.slice B m d, .slice B' m' d']) w := by kernel_rfl
theorem joinW0 (a b : PtM) (w : World) : Blk (((w.alloc (.cells #[.slice a.fa a.frs.length a.fc, .slice a.da a.dfs.length a.dc] 25)).alloc (.cells #[.slice b.fa b.frs.length b.fc, .slice b.da b.dfs.length b.dc] 25)).alloc (.cells #[.slice none 0 0, .slice none 0 0] 25)) w.heap.size 25 #[.slice a.fa a.frs.length a.fc, .slice a.da a.dfs.length a.dc] ∧ Blk (((w.alloc (.cells #[.slice a.fa a.frs.length a.fc, .slice a.da a.dfs.length a.dc] 25)).alloc (.cells #[.slice b.fa b.frs.length b.fc, .slice b.da b.dfs.length b.dc] 25)).alloc (.cells #[.slice none 0 0, .slice none 0 0] 25)) (w.heap.size + 1) 25 #[.slice b.fa b.frs.length b.fc, .slice b.da b.dfs.length b.dc] ∧ Blk (((w.alloc (.cells #[.slice a.fa a.frs.length a.fc, .slice a.da a.dfs.length a.dc] 25)).alloc (.cells #[.slice b.fa b.frs.length b.fc, .slice b.da b.dfs.length b.dc] 25)).alloc (.cells #[.slice none 0 0, .slice none 0 0] 25)) (w.heap.size + 1 + 1) 25 #[.slice none 0 0, .slice none 0 0] ∧ Below w.heap.size w (((w.alloc (.cells #[.slice a.fa a.frs.length a.fc, .slice a.da a.dfs.length a.dc] 25)).alloc (.cells #[.slice b.fa b.frs.length b.fc, .slice b.da b.dfs.length b.dc] 25)).alloc (.cells #[.slice none 0 0, .slice none 0 0] 25)) :=
  ⟨((Blk.new' _ _ _ rfl).alloc _).alloc _, (Blk.new' _ _ _ (by simp)).alloc _, Blk.new' _ _ _ (by simp), by (repeat' (first | exact Below.refl _ _ | assumption | refine Below.setCell ?_ (by first | omega | exact Below.size (by assumption) | (simp; done) | (simp; omega)) _ | refine Below.alloc ?_ (by first | omega | exact Below.size (by assumption) | (simp; done) | (simp; omega)) _ | refine Below.drew ?_ | refine below_drewN ?_ _))⟩
theorem joinP_1 {a b : Prt} (h : ckPart a ≠ 0) : joinP a b = (.nil, ckPart a) := if_pos h
theorem joinP_2 {a b : Prt} (h : ckPart a = 0) (h2 : ckPart b ≠ 0) : joinP a b = (.nil, ckPart b) := by unfold joinP; rw [if_neg (by simp [h]), if_pos h2]

set_option maxRecDepth 100000 in
set_option maxHeartbeats 20000000 in
theorem join_any (a b : PtM) (w : World) (ha : a.At w w.heap.size) (hb' : b.At w w.heap.size) :
    Calls Tryd.prog 85 #[.agg #[.slice a.fa a.frs.length a.fc, .slice a.da a.dfs.length a.dc], .agg #[.slice b.fa b.frs.length b.fc, .slice b.da b.dfs.length b.dc]] w (JoinIs w (joinP a.er b.er)) := by
  have hi0 := twoIndex0 a.fa a.frs.length a.fc a.da a.dfs.length a.dc b.fa b.frs.length b.fc b.da b.dfs.length b.dc
  have hi1 := twoIndex1 a.fa a.frs.length a.fc a.da a.dfs.length a.dc b.fa b.frs.length b.fc b.da b.dfs.length b.dc
  obtain ⟨hA, hB, hR, hb⟩ := joinW0 a b w
  unfold JoinIs
  go_enter Tryd.func85, Tryd.ntmps85
  go_wp2
  obtain ⟨W0, hW0⟩ : ∃ W, W = (((w.alloc (.cells #[.slice a.fa a.frs.length a.fc, .slice a.da a.dfs.length a.dc] 25)).alloc (.cells #[.slice b.fa b.frs.length b.fc, .slice b.da b.dfs.length b.dc] 25)).alloc (.cells #[.slice none 0 0, .slice none 0 0] 25)) := ⟨_, rfl⟩
  rw [← hW0] at hA hB hR hb ⊢
  clear hW0
  obtain ⟨gR, hgR⟩ : ∃ g, g = w.heap.size + 1 + 1 := ⟨_, rfl⟩
  obtain ⟨gB, hgB⟩ : ∃ g, g = w.heap.size + 1 := ⟨_, rfl⟩
  rw [← hgR] at hR ⊢
  rw [← hgB] at hB ⊢
  have e1 : w.heap.size < gB := by omega
  have e2 : gB < gR := by omega
  have HG : Hid (gR = w.heap.size + 2) := hgR
  clear hgR hgB
  go_loopw [20] (fun i wr => ∃ k : Nat, k ≤ 2 ∧ i = .int .i64 k ∧ Hid ((1 ≤ k → ckPart a.er = 0) ∧ (2 ≤ k → ckPart b.er = 0)) ∧ Blk wr w.heap.size 25 #[.slice a.fa a.frs.length a.fc, .slice a.da a.dfs.length a.dc] ∧ Blk wr gB 25 #[.slice b.fa b.frs.length b.fc, .slice b.da b.dfs.length b.dc] ∧ Blk wr gR 25 #[.slice none 0 0, .slice none 0 0] ∧ Below w.heap.size w wr) (fun i _ => 2 - (intOf i).toNat)
  case atStart => exact ⟨0, by omega, rfl, Lib.hid ⟨fun h => by omega, fun h => by omega⟩, hA, hB, hR, hb⟩
  case round =>
    clear hA hB hR hb
    obtain ⟨k, hk, rfl, hck, hA, hB, hR, hb⟩ := hrel
    have hz0 := hR.lt
    by_cases hk2 : k = 2
    · subst hk2
      rw [show ((2 : Nat) : Int) = 2 from rfl]
      clear hi0 hi1
      have hoa := (ok_iff _).1 (hck.out.1 (by omega))
      have hob := (ok_iff _).1 (hck.out.2 (by omega))
      have hsa := small_of (hck.out.1 (by omega))
      have hsb := small_of (hck.out.2 (by omega))
      have na := hsa.fr
      have nda := hsa.df
      clear hck
      have a0 := hA.cell 0
      have a1 := hA.cell 1
      go_wp2_with fail
      clear a0 a1
      refine (copy_any a _ (ha.keep hb hb.size) hsa).mono ?_
      rintro e w1 ⟨⟨qf, qd, qa, qc, qda, qdc⟩, rfl, own1, er1, hb1⟩
      dsimp only
      have hA1 := hA.all hb1
      have hB1 := hB.all hb1
      have hR1 := hR.all hb1
      have hbb := hb.trans (hb1.mono hb.size)
      have hz1 := hb1.size
      clear hA hB hR hb
      have hqn : qf.length = a.frs.length := by
        have := congrArg (fun r => r.frs.length) er1
        simpa [PtM.er] using this
      have hqd : qd.length = a.dfs.length := congrArg (fun r => r.dfs.length) er1
      have qf60 : qf.length ≤ 60 := by omega
      have qd60 : qd.length ≤ 60 := by omega
      replace hqn := Lib.hid hqn
      replace hqd := Lib.hid hqd
      go_upto_region 9 with (fail)
      have hA2 := hA1.alloc (.cells #[.slice qa qf.length qc, .slice qda qd.length qdc] 25)
      have hB2 := hB1.alloc (.cells #[.slice qa qf.length qc, .slice qda qd.length qdc] 25)
      have hR2 := hR1.alloc (.cells #[.slice qa qf.length qc, .slice qda qd.length qdc] 25)
      have hO2 := Blk.new w1 25 #[.slice qa qf.length qc, .slice qda qd.length qdc]
      have own2 := own1.all ((Below.refl w1.heap.size w1).alloc (Nat.le_refl _) (.cells #[.slice qa qf.length qc, .slice qda qd.length qdc] 25))
      have hb2 := hbb.alloc hbb.size (.cells #[.slice qa qf.length qc, .slice qda qd.length qdc] 25)
      have gd : w1.heap.size < (w1.alloc (.cells #[.slice qa qf.length qc, .slice qda qd.length qdc] 25)).heap.size := by simp
      obtain ⟨W2, hW2⟩ : ∃ W, W = w1.alloc (.cells #[.slice qa qf.length qc, .slice qda qd.length qdc] 25) := ⟨_, rfl⟩
      rw [← hW2] at hA2 hB2 hR2 hO2 own2 hb2 gd ⊢
      have gB1 : gB < wr.heap.size := by omega
      have f1 : ∀ g, Value.ownBlock (.slice qa qf.length qc) = some g → g < w1.heap.size := fun g hg => (own1.fr.lt g hg).2
      have f2 : ∀ g, Value.ownBlock (.slice qda qd.length qdc) = some g → g < w1.heap.size := fun g hg => (own1.df.lt g hg).2
      have f3 : ∀ x ∈ qf, ∀ g, x.reV.ownBlock = some g → g < w1.heap.size := fun x hx g hg => ((own1.each x hx).re.lt g hg).2
      have hbase : w.heap.size ≤ wr.heap.size := by omega
      clear hW2 hA1 hB1 hR1 own1 hbb hb1
      go_cut [35] (fun s wx => ∃ q2 : PtM, Hid (q2.er = dropP b.er (groupsOf a.er.frs)) ∧ JB wx w.heap.size gB gR w1.heap.size (.slice qa qf.length qc) (.slice qda qd.length qdc) q2.frV q2.dfV qf qd q2.frs q2.dfs q2.frs ∧ Blk wx w.heap.size 25 #[.slice a.fa a.frs.length a.fc, .slice a.da a.dfs.length a.dc] ∧ Below w.heap.size w wx)
      case first =>
        have a0 := hA2.cell 0
        have a1 := hA2.cell 1
        have b0 := hB2.cell 0
        have b1 := hB2.cell 1
        go_region_with (first
          | (go_at_call 130
             refine (groups_any a _ (ha.keep (Below.drew hb2) hb2.size) na).mono ?_
             rintro e w3 ⟨v, rfl, hgown, hb3⟩
             obtain ⟨Ag, cg, rfl, hg1, hg2⟩ := own_form hgown
             have hb3 : Below W2.heap.size W2 w3 := ((Below.refl _ W2).drew).trans hb3
             have b0' := (hB2.all hb3).cell 0
             have b1' := (hB2.all hb3).cell 1)
          | (go_at_call 129
             refine (drop_any b Ag cg (groupsOf a.er.frs) w3 (hb'.keep (hb2.trans (hb3.mono hb2.size)) (Nat.le_trans hb2.size hb3.size)) hob (Reads.of_own hgown) (by omega)).mono ?_
             rintro e w4 ⟨⟨q2f, q2d, q2a, q2c, q2da, q2dc⟩, rfl, own4, er4, hb4⟩
             dsimp only
             have hb34 := hb3.trans (hb4.mono hb3.size)
             have b0' := (hB2.all hb34).cell 0
             have b1' := (hB2.all hb34).cell 1
             have b0f := (hB2.all hb34).frozen 0
             have b1f := (hB2.all hb34).frozen 1))
        all_goals go_wp2
        all_goals go_meet
        all_goals
          have hsz3 := hb3.size
          have own2' := own2.all hb34
          have hJB := JB.start (gB := gB) (gR := gR) (gO := w1.heap.size) (base := w.heap.size) (B := w3.heap.size) (q := ⟨qf, qd, qa, qc, qda, qdc⟩) (q2 := ⟨q2f, q2d, q2a, q2c, q2da, q2dc⟩)
            ⟨own2'.fr.mono hbase, own2'.df.mono hbase, fun x hx => ⟨(own2'.each x hx).by_.mono hbase, (own2'.each x hx).re.mono hbase⟩, own2'.apart⟩ own4 (by omega) (fun g hg => by have := f1 g hg; omega) (fun g hg => by have := f2 g hg; omega) (fun x hx g hg => by have := f3 x hx g hg; omega)
            (hB2.all hb34) (hR2.all hb34) (hO2.all hb34) (by omega) (by omega) (by omega) (by omega) (by omega) (by omega)
          exact ⟨⟨q2f, q2d, q2a, q2c, q2da, q2dc⟩, Lib.hid er4, hJB, ((hA2.all hb34).far (by simp only; omega) _).far (by simp only; omega) _, (((hb2.trans (hb34.mono hb2.size))).setCell (by simp only; omega) _).setCell (by simp only; omega) _⟩
      case rest =>
        clear hA2 hB2 hR2 hO2 own2 hb2 gd
        obtain ⟨⟨q2f, q2d, q2a, q2c, q2da, q2dc⟩, er2, hJ, hA, hb⟩ := hcut
        unfold PtM.frV PtM.dfV at hJ
        dsimp only at hJ
        have hok2 : (Prt.mk (q2f.map FgM.f) q2d).Ok := by
          have := ok_drop hob (groupsOf a.er.frs)
          rw [← er2.out] at this
          exact this
        have hsm2 := small_of (p := ⟨q2f, q2d, q2a, q2c, q2da, q2dc⟩) ((ok_iff _).2 hok2)
        have n2 := hsm2.fr
        have d2 := hsm2.df
        dsimp only at n2 d2
        have HX8 : Hid (∀ x ∈ q2f, x.f.rs.length ≤ 8) := hsm2.re
        have HXR : Hid (∀ x ∈ q2f, ∀ r ∈ x.f.rs, r.okIn q2f.length) := fun x hx r hr => by
          have := hok2.right.rel x.f (List.mem_map_of_mem hx) r hr
          rwa [List.length_map] at this
        have HXD : Hid (∀ d ∈ q2d, d.okIn q2f.length) := fun d hd => by
          have := hok2.right.df d hd
          rwa [List.length_map] at this
        have HEND : Hid ((qf ++ q2f.map (FgM.mapR (Rel.shift a.frs.length))).map FgM.f = (joinU a.er b.er).frs ∧ qd ++ q2d.map (Df.shift a.frs.length) = (joinU a.er b.er).dfs) := by
          have hn : a.er.frs.length = a.frs.length := by simp [PtM.er]
          have h1 : qf.map FgM.f = a.er.frs := congrArg Prt.frs er1
          have h2 : qd = a.er.dfs := congrArg Prt.dfs er1
          have h3 : q2f.map FgM.f = (dropP b.er (groupsOf a.er.frs)).frs := congrArg Prt.frs er2.out
          have h4 : q2d = (dropP b.er (groupsOf a.er.frs)).dfs := congrArg Prt.dfs er2.out
          rw [joinU_add]
          unfold addP
          refine ⟨?_, ?_⟩
          · show _ = a.er.frs ++ (dropP b.er (groupsOf a.er.frs)).frs.map (Frg.mapR (Rel.shift a.er.frs.length))
            rw [List.map_append, h1, ← h3, hn, List.map_map, List.map_map]; rfl
          · show _ = a.er.dfs ++ (dropP b.er (groupsOf a.er.frs)).dfs.map (Df.shift a.er.frs.length)
            rw [h2, ← h4, hn]
        clear hok2 hsm2 f1 f2 f3
        have a0 := hA.cell 0
        have b0 := hJ.hB.cell 0
        go_wp2_with fail
        clear a0 b0 hA
        go_loopw [42] (fun i wr => ∃ (k : Nat) (z1 : Value) (K1 : List FgM), k ≤ q2f.length ∧ i = .int .i64 k ∧ Hid (K1 = qf ++ (q2f.take k).map (FgM.mapR (Rel.shift a.frs.length))) ∧
          JB wr w.heap.size gB gR w1.heap.size z1 (.slice qda qd.length qdc) (.slice q2a q2f.length q2c) (.slice q2da q2d.length q2dc) K1 qd q2f q2d (q2f.drop k) ∧ Below w.heap.size w wr) (fun i _ => q2f.length - (intOf i).toNat)
        case atStart => exact ⟨0, _, qf, Nat.zero_le _, rfl, Lib.hid (by simp), hJ, hb⟩
        case round =>
          clear hJ hb
          obtain ⟨k, z1, K1, hk, rfl, hK1, hJ, hb⟩ := hrel
          obtain ⟨wo, hwo⟩ : ∃ wo, wo = wr := ⟨_, rfl⟩
          subst hwo
          obtain ⟨Az, cz, rfl, hz1a, hz1b⟩ := own_form hJ.hz1
          have gOl := hJ.hO.lt
          have gBl := hJ.hB.lt
          have gRl := hJ.hR.lt
          have hn2 := hJ.n2
          have hn3 := hJ.n3
          have hK1l : K1.length ≤ 120 := by rw [hK1.out]; simp; omega
          by_cases hlt : k < q2f.length
          · obtain ⟨x, hx⟩ : ∃ x, q2f[k]? = some x := ⟨_, List.getElem?_eq_getElem hlt⟩
            have hxm := List.mem_of_getElem? hx
            have hx8 := HX8.out x hxm
            have hxr := Lib.hid (HXR.out x hxm)
            obtain ⟨L2, hL2⟩ : ∃ L2, q2f.drop (k + 1) = L2 := ⟨_, rfl⟩
            have hdr : q2f.drop k = x :: L2 := by
              obtain ⟨hk', hv⟩ := List.getElem?_eq_some_iff.1 hx
              rw [List.drop_eq_getElem_cons hk', hv, hL2]
            have HN : Hid (K1 ++ [x.mapR (Rel.shift a.frs.length)] = qf ++ (q2f.take (k + 1)).map (FgM.mapR (Rel.shift a.frs.length))) := by
              show _ = _
              rw [List.take_add_one, hx, List.map_append, hK1.out]; simp
            rw [hdr] at hJ
            have HL2 := Lib.hid hL2
            obtain ⟨b', off, rfl, bl, c0, c1, c2, c3, c4, c5⟩ := fg_get (Reads.of_own hJ.hz2) hx
            clear hxm hx hL2 hdr hK1
            go_upto_region 14 with (fail)
            have hJ2 := hJ.alloc (.cells #[.int .i64 x.f.sect, .int .i64 x.f.align, .string x.f.group, .slice x.ba x.f.bs.length x.bc, .int .i64 x.f.size, .slice x.ra x.f.rs.length x.rc] 92)
            have hF2 := Blk.new wo 92 #[.int .i64 x.f.sect, .int .i64 x.f.align, .string x.f.group, .slice x.ba x.f.bs.length x.bc, .int .i64 x.f.size, .slice x.ra x.f.rs.length x.rc]
            have hb2 := hb.alloc hb.size (.cells #[.int .i64 x.f.sect, .int .i64 x.f.align, .string x.f.group, .slice x.ba x.f.bs.length x.bc, .int .i64 x.f.size, .slice x.ra x.f.rs.length x.rc] 92)
            have gd : wo.heap.size < (wo.alloc (.cells #[.int .i64 x.f.sect, .int .i64 x.f.align, .string x.f.group, .slice x.ba x.f.bs.length x.bc, .int .i64 x.f.size, .slice x.ra x.f.rs.length x.rc] 92)).heap.size := by simp
            obtain ⟨W4, hW4⟩ : ∃ W, W = wo.alloc (.cells #[.int .i64 x.f.sect, .int .i64 x.f.align, .string x.f.group, .slice x.ba x.f.bs.length x.bc, .int .i64 x.f.size, .slice x.ra x.f.rs.length x.rc] 92) := ⟨_, rfl⟩
            rw [← hW4] at hJ2 hF2 hb2 gd ⊢
            clear hW4 hJ hb c0 c1 c2 c3 c4 c5 bl
            have d5 := hF2.cell 5
            go_wp2_with fail
            clear d5
            go_loopw [49] (fun i wr => ∃ j : Nat, j ≤ x.f.rs.length ∧ i = .int .i64 j ∧ JB wr w.heap.size gB gR w1.heap.size (.slice Az K1.length cz) (.slice qda qd.length qdc) (.slice (some ⟨b', off, none⟩) q2f.length q2c) (.slice q2da q2d.length q2dc) K1 qd q2f q2d (x.withR ((x.f.rs.take j).map (Rel.shift a.frs.length) ++ x.f.rs.drop j) :: L2) ∧
              Blk wr wo.heap.size 92 #[.int .i64 x.f.sect, .int .i64 x.f.align, .string x.f.group, .slice x.ba x.f.bs.length x.bc, .int .i64 x.f.size, .slice x.ra x.f.rs.length x.rc] ∧ Below w.heap.size w wr) (fun i _ => x.f.rs.length - (intOf i).toNat)
            case atStart => exact ⟨0, Nat.zero_le _, rfl, hJ2, hF2, hb2⟩
            case round =>
              clear hJ2 hF2 hb2
              obtain ⟨j, hj, rfl, hBi, hFi, hbi⟩ := hrel
              by_cases hjl : j < x.f.rs.length
              · obtain ⟨r, hr⟩ : ∃ r, x.f.rs[j]? = some r := ⟨_, List.getElem?_eq_getElem hjl⟩
                have hro := hxr.out r (List.mem_of_getElem? hr)
                obtain ⟨R1, hR1⟩ : ∃ R1, (x.f.rs.take j).map (Rel.shift a.frs.length) = R1 := ⟨_, rfl⟩
                obtain ⟨R2, hR2⟩ : ∃ R2, x.f.rs.drop (j + 1) = R2 := ⟨_, rfl⟩
                have hr1 : R1.length = j := by rw [← hR1]; simp; omega
                have hsp : (x.f.rs.take j).map (Rel.shift a.frs.length) ++ x.f.rs.drop j = R1 ++ r :: R2 := by
                  obtain ⟨hk', hv⟩ := List.getElem?_eq_some_iff.1 hr
                  rw [List.drop_eq_getElem_cons hk', hv, hR1, hR2]
                have HJJ : Hid ((x.f.rs.take (j + 1)).map (Rel.shift a.frs.length) ++ x.f.rs.drop (j + 1) = R1 ++ r.shift a.frs.length :: R2) := by
                  show _ = _
                  rw [List.take_add_one, hr, List.map_append, hR1, hR2]; simp
                have hrl : (R1 ++ r :: R2).length = x.f.rs.length := by
                  rw [← hR1, ← hR2]; simp; omega
                rw [hsp] at hBi
                have hxo := (hBi.each (x.withR (R1 ++ r :: R2)) (by simp)).re
                obtain ⟨g, cap, hv, hg0, hg1⟩ := hxo.form (by show 0 < (R1 ++ r :: R2).length; omega)
                have hra : x.ra = some ⟨g, 0, none⟩ := by
                  have h2 : Value.slice x.ra (R1 ++ r :: R2).length x.rc = .slice (some ⟨g, 0, none⟩) (R1 ++ r :: R2).length cap := hv
                  injection h2
                have hRd : Reads wr wr.heap.size 5 x.ra (R1 ++ r :: R2).length (relsV (R1 ++ r :: R2)) := Reads.of_own (show wr.ownsRow _ _ _ (.slice x.ra (R1 ++ r :: R2).length x.rc) _ _ from hxo)
                obtain ⟨g', o', he', bl', c0, c1, c2, c3, c4⟩ := rel_get hRd (show (R1 ++ r :: R2)[j]? = some r by rw [List.getElem?_append_right (by omega), hr1, Nat.sub_self]; rfl)
                obtain ⟨rfl, rfl⟩ : g' = g ∧ o' = 0 := by
                  rw [hra] at he'
                  injection he' with he'
                  injection he' with h1 h2
                  exact ⟨h1.symm, h2.symm⟩
                rw [Nat.zero_add] at c0 c1 c2 c3 c4
                have gne : g' ≠ wo.heap.size := fun e => own_blk_ne hxo hFi (by decide) (by rw [hv, e]; rfl)
                replace hr1 := Lib.hid hr1
                replace hrl := Lib.hid hrl
                have HRA := Lib.hid hra
                clear hxo hRd hv hsp hR1 hR2 hr he'
                rw [hra]
                go_upto_region 17 with (fail)
                have hB3 := hBi.alloc (.cells #[.int .i64 r.at_, .int .i64 r.kind, .string r.name, .int .i64 r.frag, .int .i64 r.add] 94)
                have hF3 := hFi.alloc (.cells #[.int .i64 r.at_, .int .i64 r.kind, .string r.name, .int .i64 r.frag, .int .i64 r.add] 94)
                have hX3 := Blk.new wr 94 #[.int .i64 r.at_, .int .i64 r.kind, .string r.name, .int .i64 r.frag, .int .i64 r.add]
                have hb3 := hbi.alloc hbi.size (.cells #[.int .i64 r.at_, .int .i64 r.kind, .string r.name, .int .i64 r.frag, .int .i64 r.add] 94)
                have q3 : (wr.alloc (.cells #[.int .i64 r.at_, .int .i64 r.kind, .string r.name, .int .i64 r.frag, .int .i64 r.add] 94)).cell? ⟨g', j * 5 + 3, none⟩ = some (.int .i64 r.frag) := by
                  rw [World.cell?_alloc_lt _ _ _ (by simpa using bl')]; exact c3
                have q3f : (wr.alloc (.cells #[.int .i64 r.at_, .int .i64 r.kind, .string r.name, .int .i64 r.frag, .int .i64 r.add] 94)).frozen? ⟨g', j * 5 + 3, none⟩ = false := by
                  have h2 : (wr.alloc (.cells #[.int .i64 r.at_, .int .i64 r.kind, .string r.name, .int .i64 r.frag, .int .i64 r.add] 94)).ownsRow w.heap.size 94 5 (.slice x.ra (R1 ++ r :: R2).length x.rc) (R1 ++ r :: R2).length (relsV (R1 ++ r :: R2)) := (hB3.each (x.withR (R1 ++ r :: R2)) (by simp)).re
                  rw [HRA.out] at h2
                  exact h2.frozenAt _
                have glt : g' < wr.heap.size := bl'
                have wlt : wo.heap.size < wr.heap.size := hFi.lt
                obtain ⟨W3, hW3⟩ : ∃ W, W = wr.alloc (.cells #[.int .i64 r.at_, .int .i64 r.kind, .string r.name, .int .i64 r.frag, .int .i64 r.add] 94) := ⟨_, rfl⟩
                rw [← hW3] at hB3 hF3 hX3 hb3 q3 q3f ⊢
                clear hW3 hBi hFi hbi c0 c1 c2 c3 c4 bl'
                have x2 := hX3.cell 2
                have x3 := hX3.cell 3
                rw [HRA.out] at hF3
                by_cases hre : r.name.size = 0 ∧ 0 ≤ r.frag
                · obtain ⟨hn0, hf0⟩ := hre
                  obtain ⟨rf, hrf⟩ : ∃ n : Nat, r.frag = n := ⟨r.frag.toNat, by omega⟩
                  have hrl2 : rf < q2f.length := by have := (hro hn0).2; omega
                  have f5 := hF3.cell 5
                  have HRE : Hid (r.shift a.frs.length = { r with frag := (rf : Int) + (a.frs.length : Int) }) := by
                    show r.shift a.frs.length = _
                    unfold Rel.shift
                    rw [if_pos ⟨hn0, hf0⟩, hrf]
                  have tn := toList_nil hn0
                  have t0 : decide ((0 : Int) ≤ (rf : Int)) = true := by simp
                  rw [hrf] at x3 q3
                  replace hrf := Lib.hid hrf
                  clear hn0 hf0 hro
                  go_upto_region 18 with (fail)
                  go_wp2
                  go_roundw
                  case rel =>
                    have h5 := hB3.setR (x := x.withR (R1 ++ r :: R2)) (g := g') rfl HRA.out ((rf : Int) + (a.frs.length : Int))
                    rw [hr1.out] at h5
                    refine ⟨j + 1, by omega, by go_num, ?_, hF3.far (p := ⟨g', j * 5 + 3, none⟩) (by simp only; omega) _, ?_⟩
                    · rw [HJJ.out, HRE.out]; exact h5
                    · exact hb3.setCell (p := ⟨g', j * 5 + 3, none⟩) (by simp only; omega) _
                  case measure => simp [intOf]; omega
                · have HRE : Hid (r.shift a.frs.length = r) := if_neg hre
                  rcases Nat.eq_zero_or_pos r.name.size with hn0 | hn0
                  · have tn := toList_nil hn0
                    have t0 : decide ((0 : Int) ≤ r.frag) = false := decide_eq_false fun h0 => hre ⟨hn0, h0⟩
                    clear hn0 hre hro
                    (go_wp2; go_roundw; (case rel => exact ⟨j + 1, by omega, by go_num, by rw [HJJ.out, HRE.out]; exact hB3, hF3, hb3⟩); (case measure => simp [intOf]; omega))
                  · have tn := toList_one hn0
                    have tn' := toList_some hn0
                    clear hn0 hre hro
                    (go_wp2; go_roundw; (case rel => exact ⟨j + 1, by omega, by go_num, by rw [HJJ.out, HRE.out]; exact hB3, hF3, hb3⟩); (case measure => simp [intOf]; omega))
              · obtain rfl : j = x.f.rs.length := by omega
                have hE : x.withR ((x.f.rs.take x.f.rs.length).map (Rel.shift a.frs.length) ++ x.f.rs.drop x.f.rs.length) = x.mapR (Rel.shift a.frs.length) := by
                  rw [List.take_length, List.drop_length, List.append_nil]; rfl
                rw [hE] at hBi
                have hCM := Lib.hid (cells_mapR (Rel.shift a.frs.length) x)
                clear hE
                have dO := hBi.hO.cell 0
                have fO := hBi.hO.frozen 0
                have g0 := hFi.cell 0
                have g1 := hFi.cell 1
                have g2 := hFi.cell 2
                have g3 := hFi.cell 3
                have g4 := hFi.cell 4
                have g5' := hFi.cell 5
                have gOl := hBi.hO.lt
                have wlt : wo.heap.size < wr.heap.size := hFi.lt
                obtain ⟨i0, hi, hiz, his, hib⟩ := info_parts Tryd.infoFrags
                go_wp2_with (at_builtin
                             refine wpList_append_lies _ rfl (.tmp 74) (.tmp 76) 22 rfl w.heap.size 92 i0 _ 6 88 Tryd.underlying22 hi hiz his hib rfl (by decide) _ _ _ rfl (hBi.hz1.alloc _) ⟨wr.heap.size, 0, none⟩ 1 1 [.int .i64 x.f.sect, .int .i64 x.f.align, .string x.f.group, .slice x.ba x.f.bs.length x.bc, .int .i64 x.f.size, .slice x.ra x.f.rs.length x.rc] rfl rfl ?c1 ?c2 (by omega) ?c3 ?c4 ?c5 _ rfl ?_
                             case c1 => exact fun j u hu => cells_new j u hu
                             case c2 => exact fg_one x
                             case c3 => unfold maxLen; omega
                             case c4 => omega
                             case c5 => have := hbi.size; simp; omega
                             intro g5 c5 w5 hown5 hg5 hat5 hlt5
                             have hown5' : w5.ownsRow w.heap.size 92 6 (.slice (some ⟨g5, 0, none⟩) (K1.length + 1) c5) (K1.length + 1) (fgsV K1 ++ (x.mapR (Rel.shift a.frs.length)).cells) := by rw [hCM.out]; exact hown5
                             have hB5 := (hBi.alloc _).pushF hown5' hg5 hat5
                             have hb5 := (hBi.alloc _).belowF (.slice (some ⟨g5, 0, none⟩) (K1.length + 1) c5) (hbi.alloc hbi.size _) hg5
                             have hO5 := (hBi.alloc _).hO5 hg5
                             have dO5 := hO5.cell 0
                             have fO5 := hO5.frozen 0
                             clear hg5 hown5 hown5' hat5 g0 g1 g2 g3 g4 g5')
                go_roundw
                case rel => exact ⟨k + 1, _, K1 ++ [x.mapR (Rel.shift a.frs.length)], by omega, by go_num, HN, by rw [HL2.out]; exact hB5, hb5⟩
                case measure => simp [intOf]; omega
          · obtain rfl : k = q2f.length := by omega
            have hKE : K1 = qf ++ q2f.map (FgM.mapR (Rel.shift a.frs.length)) := by rw [hK1.out, List.take_length]
            rw [List.drop_length] at hJ
            rw [← hKE] at HEND
            clear hK1 hKE
            obtain ⟨j0, hj, hjz, hjs, hjb⟩ := info_parts Tryd.infoDefs
            have b1 := hJ.hB.cell 1
            go_wp2_with fail
            clear b1
            go_loopw [83] (fun i wr => ∃ (k : Nat) (y : Value) (D : List Df), k ≤ q2d.length ∧ i = .int .i64 k ∧ Hid (D = qd ++ (q2d.take k).map (Df.shift a.frs.length)) ∧
              JB wr w.heap.size gB gR w1.heap.size (.slice Az K1.length cz) y (.slice q2a q2f.length q2c) (.slice q2da q2d.length q2dc) K1 D q2f q2d [] ∧ Below w.heap.size w wr) (fun i _ => q2d.length - (intOf i).toNat)
            case atStart => exact ⟨0, _, qd, Nat.zero_le _, rfl, Lib.hid (by simp), hJ, hb⟩
            case round =>
              clear hJ hb
              obtain ⟨k, y, D, hk, rfl, hD, hB, hb⟩ := hrel
              obtain ⟨Ay, cy, rfl, hy1, hy2⟩ := own_form hB.hy1
              have hDl : D.length ≤ 120 := by rw [hD.out]; simp; omega
              have gOl := hB.hO.lt
              have gBl := hB.hB.lt
              have gRl := hB.hR.lt
              by_cases hlt : k < q2d.length
              · obtain ⟨d, hd⟩ : ∃ d, q2d[k]? = some d := ⟨_, List.getElem?_eq_getElem hlt⟩
                obtain ⟨b', off, rfl, bl, c0, c1, c2, c3, c4, c5⟩ := df_get (Reads.of_own hB.hy2) hd
                have hdo := HXD.out d (List.mem_of_getElem? hd)
                have HD : Hid (qd ++ (q2d.take (k + 1)).map (Df.shift a.frs.length) = (qd ++ (q2d.take k).map (Df.shift a.frs.length)) ++ [d.shift a.frs.length]) := by show _ = _; rw [List.take_add_one, hd, List.map_append]; simp
                have HDA : Hid (True = True) := rfl
                clear hd
                go_upto_region 25 with (fail)
                have hB2 := hB.alloc (.cells #[.string d.name, .int .i64 d.kind, .int .i64 d.frag, .int .i64 d.at_, .int .i64 d.size, .int .i64 d.align] 31)
                have hF2 := Blk.new wr 31 #[.string d.name, .int .i64 d.kind, .int .i64 d.frag, .int .i64 d.at_, .int .i64 d.size, .int .i64 d.align]
                have hb2 := hb.alloc hb.size (.cells #[.string d.name, .int .i64 d.kind, .int .i64 d.frag, .int .i64 d.at_, .int .i64 d.size, .int .i64 d.align] 31)
                have gd : wr.heap.size < (wr.alloc (.cells #[.string d.name, .int .i64 d.kind, .int .i64 d.frag, .int .i64 d.at_, .int .i64 d.size, .int .i64 d.align] 31)).heap.size := by simp
                have hyn1 : (Value.slice Ay D.length cy).ownBlock ≠ some wr.heap.size := fun e => by have := (hB.hy1.lt _ e).2; omega
                have hyn2 : (Value.slice (some ⟨b', off, none⟩) q2d.length q2dc).ownBlock ≠ some wr.heap.size := fun e => by have := (hB.hy2.lt _ e).2; omega
                obtain ⟨W2, hW2⟩ : ∃ W, W = wr.alloc (.cells #[.string d.name, .int .i64 d.kind, .int .i64 d.frag, .int .i64 d.at_, .int .i64 d.size, .int .i64 d.align] 31) := ⟨_, rfl⟩
                rw [← hW2] at hB2 hF2 hb2 gd ⊢
                clear hW2 hB hb c0 c1 c2 c3 c4 c5 bl
                have hdz : Hid (d.shift a.frs.length = if d.kind ≠ 3 then { d with frag := d.frag + a.frs.length } else d) := rfl
                by_cases hk3 : d.kind = 3
                · have kf : (d.kind != 3) = false := by simp [hk3]
                  have HQ : Hid ([d.shift a.frs.length] = [{ d with frag := d.frag }]) := by
                    show [d.shift a.frs.length] = _
                    rw [Df.shift_common _ hk3]
                  have hB3 := hB2
                  have hF3 := hF2
                  have hb3 := hb2
                  have gd3 := gd
                  clear hB2 hF2 hb2 gd hk3 hdo hyn1 hyn2
                  obtain ⟨W3, hW3⟩ : ∃ W, W = W2 := ⟨_, rfl⟩
                  rw [← hW3] at hB3 hF3 hb3 gd3 ⊢
                  clear hW3
                  have dO := hB3.hO.cell 1
                  have fO := hB3.hO.frozen 1
                  have g0 := hF3.cell 0
                  have g1 := hF3.cell 1
                  have g2 := hF3.cell 2
                  have g3 := hF3.cell 3
                  have g4 := hF3.cell 4
                  have g5' := hF3.cell 5
                  have b3 := hb3.size
                  (go_wp2_with (at_builtin; refine wpList_append_lies _ rfl (.tmp 96) (.tmp 98) 23 rfl w.heap.size 31 j0 _ 6 56 Tryd.underlying23 hj hjz hjs hjb rfl (by decide) _ _ _ rfl (hB3.hy1.alloc _) ⟨W3.heap.size, 0, none⟩ 1 1 [.string d.name, .int .i64 d.kind, .int .i64 d.frag, .int .i64 d.at_, .int .i64 d.size, .int .i64 d.align] rfl rfl ?c1 ?c2 (by omega) ?c3 ?c4 ?c5 _ rfl ?_; (case c1 => exact fun j u hu => cells_new j u hu); (case c2 => exact df_one { d with frag := d.frag }); (case c3 => unfold maxLen; omega); (case c4 => omega); (case c5 => simp; omega); intro g5 c5 w5 hown5 hg5 hat5 hlt5; have hB5 := (hB3.alloc _).pushD (d := { d with frag := d.frag }) hown5 hg5 hat5; have hb5 := (hB3.alloc _).belowD (.slice (some ⟨g5, 0, none⟩) (D.length + 1) c5) (hb3.alloc hb3.size _) hg5; have hO5 := (hB3.alloc _).hO6 hg5; have dO5 := hO5.cell 1; have fO5 := hO5.frozen 1; clear hg5 hown5 hat5 g0 g1 g2 g3 g4 g5'); go_roundw; (case rel => exact ⟨k + 1, _, D ++ [{ d with frag := d.frag }], by omega, by go_num, Lib.hid (by rw [HD.out, hD.out, HQ.out]), by first | exact hB5 | (rw [HDA.out] at hB5; exact hB5), hb5⟩); (case measure => simp [intOf]; omega))
                · have kf : (d.kind != 3) = true := by simpa using hk3
                  obtain ⟨hf0, hf1⟩ := hdo.2 hk3
                  obtain ⟨n, hn⟩ : ∃ n : Nat, d.frag = n := ⟨d.frag.toNat, by omega⟩
                  have nlt : n < q2f.length := by omega
                  have HQ : Hid ([d.shift a.frs.length] = [{ d with frag := ((n : Int) + (a.frs.length : Int)) }]) := by
                    show [d.shift a.frs.length] = _
                    rw [hdz.out, if_pos hk3, hn]
                  have f1 := hF2.cell 1
                  have f2 := hF2.cell 2
                  have f2f := hF2.frozen 2
                  rw [hn] at f2
                  replace hn := Lib.hid hn
                  clear hf0 hf1 hk3 hdo
                  go_upto_region 27 with (fail)
                  have hF3 : Blk (W2.setCell ⟨wr.heap.size, 2, none⟩ (.int .i64 ((n : Int) + (a.frs.length : Int)))) wr.heap.size 31 #[.string d.name, .int .i64 d.kind, .int .i64 ((n : Int) + (a.frs.length : Int)), .int .i64 d.at_, .int .i64 d.size, .int .i64 d.align] := hF2.set_ 2 (.int .i64 ((n : Int) + (a.frs.length : Int)))
                  have hB3 := hB2.box (j := 2) hF2 hyn1 hyn2 (.int .i64 ((n : Int) + (a.frs.length : Int)))
                  have hb3 := hb2.setCell (p := ⟨wr.heap.size, 2, none⟩) (by have := hb2.size; simp only; omega) (.int .i64 ((n : Int) + (a.frs.length : Int)))
                  have gd3 : wr.heap.size < (W2.setCell ⟨wr.heap.size, 2, none⟩ (.int .i64 ((n : Int) + (a.frs.length : Int)))).heap.size := by simpa [World.setCell] using gd
                  obtain ⟨W3, hW3⟩ : ∃ W, W = W2.setCell ⟨wr.heap.size, 2, none⟩ (.int .i64 ((n : Int) + (a.frs.length : Int))) := ⟨_, rfl⟩
                  rw [← hW3] at hB3 hF3 hb3 gd3 ⊢
                  clear hW3 hB2 hF2 hb2 gd f1 f2 f2f hyn1 hyn2
                  have dO := hB3.hO.cell 1
                  have fO := hB3.hO.frozen 1
                  have g0 := hF3.cell 0
                  have g1 := hF3.cell 1
                  have g2 := hF3.cell 2
                  have g3 := hF3.cell 3
                  have g4 := hF3.cell 4
                  have g5' := hF3.cell 5
                  have b3 := hb3.size
                  (go_wp2_with (at_builtin; refine wpList_append_lies _ rfl (.tmp 96) (.tmp 98) 23 rfl w.heap.size 31 j0 _ 6 56 Tryd.underlying23 hj hjz hjs hjb rfl (by decide) _ _ _ rfl (hB3.hy1.alloc _) ⟨W3.heap.size, 0, none⟩ 1 1 [.string d.name, .int .i64 d.kind, .int .i64 ((n : Int) + (a.frs.length : Int)), .int .i64 d.at_, .int .i64 d.size, .int .i64 d.align] rfl rfl ?c1 ?c2 (by omega) ?c3 ?c4 ?c5 _ rfl ?_; (case c1 => exact fun j u hu => cells_new j u hu); (case c2 => exact df_one { d with frag := ((n : Int) + (a.frs.length : Int)) }); (case c3 => unfold maxLen; omega); (case c4 => omega); (case c5 => simp; omega); intro g5 c5 w5 hown5 hg5 hat5 hlt5; have hB5 := (hB3.alloc _).pushD (d := { d with frag := ((n : Int) + (a.frs.length : Int)) }) hown5 hg5 hat5; have hb5 := (hB3.alloc _).belowD (.slice (some ⟨g5, 0, none⟩) (D.length + 1) c5) (hb3.alloc hb3.size _) hg5; have hO5 := (hB3.alloc _).hO6 hg5; have dO5 := hO5.cell 1; have fO5 := hO5.frozen 1; clear hg5 hown5 hat5 g0 g1 g2 g3 g4 g5'); go_roundw; (case rel => exact ⟨k + 1, _, D ++ [{ d with frag := ((n : Int) + (a.frs.length : Int)) }], by omega, by go_num, Lib.hid (by rw [HD.out, hD.out, HQ.out]), by first | exact hB5 | (rw [HDA.out] at hB5; exact hB5), hb5⟩); (case measure => simp [intOf]; omega))
              · obtain rfl : k = q2d.length := by omega
                have hD' : Hid (D = (joinU a.er b.er).dfs) := by
                  have := hD.out
                  rw [List.take_length] at this
                  exact this.trans HEND.out.2
                have hEr : Hid (PtM.er ⟨K1, D, Az, cz, Ay, cy⟩ = joinU a.er b.er) := by
                  show Prt.mk (K1.map FgM.f) D = _
                  rw [HEND.out.1, hD'.out]
                have hF : (joinU a.er b.er).fits ↔ K1.length ≤ 60 ∧ D.length ≤ 60 := by
                  rw [← hEr.out]
                  unfold Prt.fits PtM.er
                  simp
                have r0 := hB.hO.cell 0
                have r1 := hB.hO.cell 1
                have q0 := hB.hR.cell 0
                have q1 := hB.hR.cell 1
                have q2 := hB.hR.frozen 0
                have q3 := hB.hR.frozen 1
                have hwz : w.heap.size < gR := by omega
                by_cases h1 : 60 < K1.length
                · have HJ := Lib.hid (joinP_full hoa hob (fun hn => by have := hF.1 hn; omega))
                  have t1 : decide ((60 : Int) < (K1.length : Int)) = true := decide_eq_true (by omega)
                  have hBy : Below w.heap.size w ((wr.setCell ⟨gR, 0, none⟩ (.slice none 0 0)).setCell ⟨gR, 1, none⟩ (.slice none 0 0)) := (hb.setCell (by simp only; omega) _).setCell (by simp only; omega) _
                  clear hF h1 hB
                  go_wp2
                  refine bodyPost_ret (v := .tuple #[.agg #[.slice none 0 0, .slice none 0 0], .int .i64 10]) (by simp [results, Tryd.results85, go_sem, q0, q1]) rfl ⟨⟨[], [], none, 0, none, 0⟩, by rw [HJ.out]; rfl, nil_own _ _, by rw [HJ.out]; rfl, by first | exact hBy | (repeat' (first | exact Below.refl _ _ | assumption | refine Below.setCell ?_ (by first | omega | exact Below.size (by assumption) | (simp; done) | (simp; omega)) _ | refine Below.alloc ?_ (by first | omega | exact Below.size (by assumption) | (simp; done) | (simp; omega)) _ | refine Below.drew ?_ | refine below_drewN ?_ _))⟩
                · by_cases h2 : 60 < D.length
                  · have HJ := Lib.hid (joinP_full hoa hob (fun hn => by have := hF.1 hn; omega))
                    have t1 : decide ((60 : Int) < (K1.length : Int)) = false := decide_eq_false (by omega)
                    have t2 : decide ((60 : Int) < (D.length : Int)) = true := decide_eq_true (by omega)
                    have hBy : Below w.heap.size w ((wr.setCell ⟨gR, 0, none⟩ (.slice none 0 0)).setCell ⟨gR, 1, none⟩ (.slice none 0 0)) := (hb.setCell (by simp only; omega) _).setCell (by simp only; omega) _
                    clear hF h1 h2 hB
                    go_wp2
                    refine bodyPost_ret (v := .tuple #[.agg #[.slice none 0 0, .slice none 0 0], .int .i64 10]) (by simp [results, Tryd.results85, go_sem, q0, q1]) rfl ⟨⟨[], [], none, 0, none, 0⟩, by rw [HJ.out]; rfl, nil_own _ _, by rw [HJ.out]; rfl, by first | exact hBy | (repeat' (first | exact Below.refl _ _ | assumption | refine Below.setCell ?_ (by first | omega | exact Below.size (by assumption) | (simp; done) | (simp; omega)) _ | refine Below.alloc ?_ (by first | omega | exact Below.size (by assumption) | (simp; done) | (simp; omega)) _ | refine Below.drew ?_ | refine below_drewN ?_ _))⟩
                  · have HJ := Lib.hid (joinP_ok hoa hob (hF.2 ⟨by omega, by omega⟩))
                    have t1 : decide ((60 : Int) < (K1.length : Int)) = false := decide_eq_false (by omega)
                    have t2 : decide ((60 : Int) < (D.length : Int)) = false := decide_eq_false (by omega)
                    have hBy : Below w.heap.size w ((wr.setCell ⟨gR, 0, none⟩ (.slice Az K1.length cz)).setCell ⟨gR, 1, none⟩ (.slice Ay D.length cy)) := (hb.setCell (by simp only; omega) _).setCell (by simp only; omega) _
                    have n1 := own_blk_ne hB.hz1 hB.hR (by decide)
                    have n2 := own_blk_ne hB.hy1 hB.hR (by decide)
                    have hO5 := own_setCell (own_setCell hB.hz1 n1 (.slice Az K1.length cz) (p := ⟨gR, 0, none⟩)) n1 (.slice Ay D.length cy) (p := ⟨gR, 1, none⟩)
                    have hD5 := own_setCell (own_setCell hB.hy1 n2 (.slice Az K1.length cz) (p := ⟨gR, 0, none⟩)) n2 (.slice Ay D.length cy) (p := ⟨gR, 1, none⟩)
                    have hE5 : ∀ x ∈ K1, x.Own ((wr.setCell ⟨gR, 0, none⟩ (.slice Az K1.length cz)).setCell ⟨gR, 1, none⟩ (.slice Ay D.length cy)) w.heap.size := fun x hx => ((hB.each x (by simp [hx])).blk hB.hR (by decide) (by decide) _).blk (hB.hR.set_ 0 _) (by decide) (by decide) _
                    have hAp : ApartR K1 := by have := hB.apart; rwa [List.append_nil] at this
                    have hA5 : PtM.Own ((wr.setCell ⟨gR, 0, none⟩ (.slice Az K1.length cz)).setCell ⟨gR, 1, none⟩ (.slice Ay D.length cy)) w.heap.size ⟨K1, D, Az, cz, Ay, cy⟩ := ⟨hO5, hD5, hE5, hAp⟩
                    clear hF h1 h2 hB hO5 hD5 hE5 n1 n2 hAp
                    go_wp2
                    refine bodyPost_ret (v := .tuple #[.agg #[.slice Az K1.length cz, .slice Ay D.length cy], .int .i64 0]) (by simp [results, Tryd.results85, go_sem, q0, q1]) rfl ⟨⟨K1, D, Az, cz, Ay, cy⟩, by rw [HJ.out], hA5, by rw [HJ.out]; exact hEr.out, hBy⟩
    · by_cases hk0 : k = 0
      · subst hk0
        clear hi1
        go_wp2_with fail
        have hb1 : Below wr.heap.size wr (wr.alloc (.cells #[.slice a.fa a.frs.length a.fc, .slice a.da a.dfs.length a.dc] 25)) := by (repeat' (first | exact Below.refl _ _ | assumption | refine Below.setCell ?_ (by first | omega | exact Below.size (by assumption) | (simp; done) | (simp; omega)) _ | refine Below.alloc ?_ (by first | omega | exact Below.size (by assumption) | (simp; done) | (simp; omega)) _ | refine Below.drew ?_ | refine below_drewN ?_ _))
        refine (check_any a _ ((ha.keep hb hb.size).all hb1)).mono ?_
        rintro e w1 ⟨rfl, hb2⟩
        have hb3 : Below wr.heap.size wr w1 := hb1.trans (hb2.mono hb1.size)
        clear hb1 hb2
        by_cases hc : ckPart a.er = 0
        · have HC := Lib.hid hc
          rw [hc]
          clear hc
          go_wp2
          go_roundw
          case rel => exact ⟨1, by omega, by go_num, Lib.hid ⟨fun _ => HC.out, fun h => by omega⟩, hA.all hb3, hB.all hb3, hR.all hb3, hb.trans (hb3.mono hb.size)⟩
          case measure => simp [intOf]
        · have HJ := Lib.hid (joinP_1 (b := b.er) hc)
          obtain ⟨n, hn⟩ : ∃ n, ckPart a.er = n := ⟨_, rfl⟩
          rw [hn] at HJ ⊢
          have hn0 : (n != 0) = true := by rw [hn] at hc; simpa using hc
          clear hc hn
          (have q0 := (hR.all hb3).cell 0; have q1 := (hR.all hb3).cell 1; have q2 := (hR.all hb3).frozen 0; have q3 := (hR.all hb3).frozen 1; have hRx := ((hR.all hb3).set_ 0 (.slice none 0 0)).set_ 1 (.slice none 0 0); have x0 := hRx.cell 0; have x1 := hRx.cell 1; have hBx : Below w.heap.size w w1 := hb.trans (hb3.mono hb.size); have hBy : Below w.heap.size w ((w1.setCell ⟨gR, 0, none⟩ (.slice none 0 0)).setCell ⟨gR, 1, none⟩ (.slice none 0 0)) := (hBx.setCell (by simp only; omega) _).setCell (by simp only; omega) _; go_wp2; refine bodyPost_ret (v := .tuple #[.agg #[.slice none 0 0, .slice none 0 0], .int .i64 n]) (by simp [results, Tryd.results85, go_sem, q0, q1]) rfl ⟨⟨[], [], none, 0, none, 0⟩, by rw [HJ.out]; rfl, nil_own _ _, by rw [HJ.out]; rfl, by first | exact hBy | (repeat' (first | exact Below.refl _ _ | assumption | refine Below.setCell ?_ (by first | omega | exact Below.size (by assumption) | (simp; done) | (simp; omega)) _ | refine Below.alloc ?_ (by first | omega | exact Below.size (by assumption) | (simp; done) | (simp; omega)) _ | refine Below.drew ?_ | refine below_drewN ?_ _))⟩)
      · obtain rfl : k = 1 := by omega
        clear hi0
        go_wp2_with fail
        have hb1 : Below wr.heap.size wr (wr.alloc (.cells #[.slice b.fa b.frs.length b.fc, .slice b.da b.dfs.length b.dc] 25)) := by (repeat' (first | exact Below.refl _ _ | assumption | refine Below.setCell ?_ (by first | omega | exact Below.size (by assumption) | (simp; done) | (simp; omega)) _ | refine Below.alloc ?_ (by first | omega | exact Below.size (by assumption) | (simp; done) | (simp; omega)) _ | refine Below.drew ?_ | refine below_drewN ?_ _))
        refine (check_any b _ ((hb'.keep hb hb.size).all hb1)).mono ?_
        rintro e w1 ⟨rfl, hb2⟩
        have hb3 : Below wr.heap.size wr w1 := hb1.trans (hb2.mono hb1.size)
        clear hb1 hb2
        by_cases hc : ckPart b.er = 0
        · have HC := Lib.hid hc
          rw [hc]
          clear hc
          go_wp2
          go_roundw
          case rel => exact ⟨2, by omega, by go_num, Lib.hid ⟨fun _ => hck.out.1 (by omega), fun _ => HC.out⟩, hA.all hb3, hB.all hb3, hR.all hb3, hb.trans (hb3.mono hb.size)⟩
          case measure => simp [intOf]
        · have HJ := Lib.hid (joinP_2 (hck.out.1 (by omega)) hc)
          obtain ⟨n, hn⟩ : ∃ n, ckPart b.er = n := ⟨_, rfl⟩
          rw [hn] at HJ ⊢
          have hn0 : (n != 0) = true := by rw [hn] at hc; simpa using hc
          clear hc hn
          (have q0 := (hR.all hb3).cell 0; have q1 := (hR.all hb3).cell 1; have q2 := (hR.all hb3).frozen 0; have q3 := (hR.all hb3).frozen 1; have hRx := ((hR.all hb3).set_ 0 (.slice none 0 0)).set_ 1 (.slice none 0 0); have x0 := hRx.cell 0; have x1 := hRx.cell 1; have hBx : Below w.heap.size w w1 := hb.trans (hb3.mono hb.size); have hBy : Below w.heap.size w ((w1.setCell ⟨gR, 0, none⟩ (.slice none 0 0)).setCell ⟨gR, 1, none⟩ (.slice none 0 0)) := (hBx.setCell (by simp only; omega) _).setCell (by simp only; omega) _; go_wp2; refine bodyPost_ret (v := .tuple #[.agg #[.slice none 0 0, .slice none 0 0], .int .i64 n]) (by simp [results, Tryd.results85, go_sem, q0, q1]) rfl ⟨⟨[], [], none, 0, none, 0⟩, by rw [HJ.out]; rfl, nil_own _ _, by rw [HJ.out]; rfl, by first | exact hBy | (repeat' (first | exact Below.refl _ _ | assumption | refine Below.setCell ?_ (by first | omega | exact Below.size (by assumption) | (simp; done) | (simp; omega)) _ | refine Below.alloc ?_ (by first | omega | exact Below.size (by assumption) | (simp; done) | (simp; omega)) _ | refine Below.drew ?_ | refine below_drewN ?_ _))⟩)
end Go.Proofs.YtokiekachlmigaaDoor
