/- obj.Copy: what it computes. -/
import Derived.Test.YtmlomnhjbmocfaaDoorClone
import Derived.Test.YtmlomnhjbmocfaaDoorBC
import Derived.Deep.DeepCutAuto
import Derived.Deep.RegionWith
import Derived.Deep.RegionHeld3
set_option linter.all false
namespace Go.Proofs.YtmlomnhjbmocfaaDoor
open Go.RowKit

def CopyIs (w : World) (p : PtM) (e : Ending) (w' : World) : Prop :=
  ∃ p' : PtM, e = .returned (.agg #[.slice p'.fa p'.frs.length p'.fc, .slice p'.da p'.dfs.length p'.dc]) ∧ p'.Own w' w.heap.size ∧ p'.er = p.er ∧ Below w.heap.size w w'

set_option maxHeartbeats 20000000 in
theorem copy_any (p : PtM) (w : World) (h : p.At w w.heap.size) (hs : p.Small) :
    Calls Tryd.prog 47 #[.agg #[.slice p.fa p.frs.length p.fc, .slice p.da p.dfs.length p.dc]] w (CopyIs w p) := by
  obtain ⟨hf, he, hd, hfm, hdm⟩ := h
  obtain ⟨s1, s2, s3, s4⟩ := hs
  obtain ⟨frs, dfs, fa, fc, da, dc⟩ := p
  simp only at *
  have HE := Lib.hid he
  have S3 := Lib.hid s3
  have S4 := Lib.hid s4
  clear he s3 s4
  have hP := (Blk.new' w 25 #[.slice fa frs.length fc, .slice da dfs.length dc] rfl).alloc (.cells #[.slice none 0 0, .slice none 0 0] 25)
  have hR := Blk.new' (w.alloc (.cells #[.slice fa frs.length fc, .slice da dfs.length dc] 25)) 25 #[.slice none 0 0, .slice none 0 0] (show w.heap.size + 1 = _ by simp)
  have hb0 : Below w.heap.size w ((w.alloc (.cells #[.slice fa frs.length fc, .slice da dfs.length dc] 25)).alloc (.cells #[.slice none 0 0, .slice none 0 0] 25)) := by (repeat' (first | exact Below.refl _ _ | assumption | refine Below.setCell ?_ (by first | omega | exact Below.size (by assumption) | (simp; done) | (simp; omega)) _ | refine Below.alloc ?_ (by first | omega | exact Below.size (by assumption) | (simp; done) | (simp; omega)) _ | refine Below.drew ?_ | refine below_drewN ?_ _))
  go_enter Tryd.func47, Tryd.ntmps47
  go_upto_region 1 with (fail)
  obtain ⟨W0, hW0⟩ : ∃ W, W = ((w.alloc (.cells #[.slice fa frs.length fc, .slice da dfs.length dc] 25)).alloc (.cells #[.slice none 0 0, .slice none 0 0] 25)) := ⟨_, rfl⟩
  rw [← hW0] at hP hR hb0 ⊢
  clear hW0
  go_cut [7] (fun s wx => ∃ (A1 A2 : Option Addr) (c1 c2 : Nat), Blk wx w.heap.size 25 #[.slice A1 frs.length c1, .slice A2 dfs.length c2] ∧ Blk wx (w.heap.size + 1) 25 #[.slice none 0 0, .slice none 0 0] ∧
    wx.ownsRow w.heap.size 63 6 (.slice A1 frs.length c1) frs.length (fgsV frs) ∧ wx.ownsRow w.heap.size 70 6 (.slice A2 dfs.length c2) dfs.length (dfsV dfs) ∧ Below w.heap.size w wx)
  case first =>
    have p0 := hP.cell 0
    have p1 := hP.cell 1
    have f0 := hP.frozen 0
    have f1 := hP.frozen 1
    have hd0 := (hd.below hb0).more hb0.size
    have z0 := hP.lt
    have z1 := hb0.size
    go_region_with (first
      | (go_at_call 83
         refine (cloneFrags_any fa frs.length fc (fgsV frs) _ ?hr (fgsV_one frs) (by omega) hfm).mono ?_
         case hr => exact (hf.below hb0).more hb0.size
         rintro e w1 ⟨v1, rfl, hown1, hb1⟩
         obtain ⟨A1, c1, rfl, hc1, _⟩ := own_form hown1
         have hb1 : Below W0.heap.size W0 w1 := ((Below.refl _ W0).drew).trans hb1
         have hP1 := hP.all hb1
         have hR1 := hR.all hb1
         have hd1 := (hd0.below hb1).more hb1.size
         have q0 := hP1.cell 0
         have q1 := hP1.cell 1
         have g0 := hP1.frozen 0
         have g1 := hP1.frozen 1)
      | (go_at_call 84
         refine (cloneDefs_any da dfs.length dc (dfsV dfs) _ ?hr (dfsV_one dfs) (by omega) hdm).mono ?_
         case hr => exact hd1
         rintro e w2 ⟨v2, rfl, hown2, hb2⟩
         obtain ⟨A2, c2, rfl, hc2, _⟩ := own_form hown2
         have hP2 := hP1.all hb2
         have hR2 := hR1.all hb2
         have q0 := hP2.cell 0
         have q1 := hP2.cell 1
         have g0 := hP2.frozen 0
         have g1 := hP2.frozen 1))
    all_goals go_wp2
    all_goals go_meet
    all_goals
      have hO1 := (own_all hown1 hb2).mono (base' := w.heap.size) z1
      have hD1 := hown2.mono (base' := w.heap.size) (Nat.le_trans z1 hb1.size)
      have n1 := own_blk_ne hO1 hP2 (by decide)
      have n2 := own_blk_ne hD1 hP2 (by decide)
      have hB2 : Below w.heap.size w w2 := (hb0.trans (hb1.mono z1)).trans (hb2.mono (Nat.le_trans z1 hb1.size))
      exact ⟨A1, A2, c1, c2, (hP2.set_ 0 _).set_ 1 _, (hR2.far (by simp) _).far (by simp) _, own_setCell (own_setCell hO1 n1 _) n1 _, own_setCell (own_setCell hD1 n2 _) n2 _, by (repeat' (first | exact Below.refl _ _ | assumption | refine Below.setCell ?_ (by first | omega | exact Below.size (by assumption) | (simp; done) | (simp; omega)) _ | refine Below.alloc ?_ (by first | omega | exact Below.size (by assumption) | (simp; done) | (simp; omega)) _ | refine Below.drew ?_ | refine below_drewN ?_ _))⟩
  case rest =>
    obtain ⟨A1, A2, c1, c2, hP, hR, hO, hD, hb⟩ := hcut
    have p0 := hP.cell 0
    go_wp2_with fail
    clear p0
    go_loopw [16] (fun i wr => ∃ (k : Nat) (done : List FgM), k ≤ frs.length ∧ i = .int .i64 k ∧ Hid (done.length = k) ∧ Hid (done.map FgM.f = (frs.take k).map FgM.f) ∧ Blk wr w.heap.size 25 #[.slice A1 frs.length c1, .slice A2 dfs.length c2] ∧
      Blk wr (w.heap.size + 1) 25 #[.slice none 0 0, .slice none 0 0] ∧ wr.ownsRow w.heap.size 63 6 (.slice A1 frs.length c1) frs.length (fgsV (done ++ frs.drop k)) ∧
      wr.ownsRow w.heap.size 70 6 (.slice A2 dfs.length c2) dfs.length (dfsV dfs) ∧ Hid (∀ x ∈ done, x.Own wr w.heap.size) ∧ Hid (ApartR done) ∧ Below w.heap.size w wr) (fun i _ => frs.length - (intOf i).toNat)
    case atStart => exact ⟨0, [], Nat.zero_le _, rfl, Lib.hid rfl, Lib.hid (by simp), hP, hR, by simpa using hO, hD, Lib.hid (by simp), Lib.hid List.Pairwise.nil, hb⟩
    case round =>
      clear hP hR hO hD hb hf
      obtain ⟨k, done, hk, rfl, hdl, hdf, hP, hR, hO, hD, hE, hA, hb⟩ := hrel
      by_cases hlt : k < frs.length
      · obtain ⟨x, hx⟩ : ∃ x, frs[k]? = some x := ⟨_, List.getElem?_eq_getElem hlt⟩
        have hdr : frs.drop k = x :: frs.drop (k + 1) := by
          obtain ⟨hk', hv⟩ := List.getElem?_eq_some_iff.1 hx
          rw [List.drop_eq_getElem_cons hk', hv]
        rw [hdr] at hO
        obtain ⟨g, cap, hv, hg0, hg1⟩ := hO.form (by omega)
        simp only [Value.slice.injEq, true_and] at hv
        obtain ⟨rfl, rfl⟩ := hv
        have hxk : (done ++ x :: frs.drop (k + 1))[k]? = some x := by
          rw [List.getElem?_append_right (by rw [hdl.out]; exact Nat.le_refl _), hdl.out, Nat.sub_self]; rfl
        have hc : ∀ j u, j < 6 → x.cells[j]? = some u → wr.cell? ⟨g, k * 6 + j, none⟩ = some u := fun j u hj hu => by
          rw [hO.cellAt _ (by omega)]
          exact (flatMap_get FgM.cells_len _ k j x hj hxk).trans hu
        have d0 := hc 0 _ (by omega) rfl
        have d1 := hc 1 _ (by omega) rfl
        have d2 := hc 2 _ (by omega) rfl
        have d3 := hc 3 _ (by omega) rfl
        have d4 := hc 4 _ (by omega) rfl
        have d5 := hc 5 _ (by omega) rfl
        rw [Nat.add_zero] at d0
        unfold FgM.byV at d3
        unfold FgM.reV at d5
        have hx0 := (HE.out x (List.mem_of_getElem? hx)).keep hb hb.size
        have l3 := S3.out x (List.mem_of_getElem? hx)
        have l4 := S4.out x (List.mem_of_getElem? hx)
        have hxf : Hid ((frs.take k).map FgM.f ++ [x.f] = (frs.take (k + 1)).map FgM.f) := by
          show _ = _
          rw [List.take_add_one, List.map_append, hx]; rfl
        have hCL : Hid (∀ j u, j < 6 → x.cells[j]? = some u → (fgsV (done ++ x :: frs.drop (k + 1)))[k * 6 + j]? = some u) := fun j u hj hu => (flatMap_get FgM.cells_len _ k j x hj hxk).trans hu
        clear hc hx hdr hxk
        go_upto_region 5 with (fail)
        have hP1 := hP.alloc (.cells #[.int .i64 x.f.sect, .int .i64 x.f.align, .string x.f.group, .slice x.ba x.f.bs.length x.bc, .int .i64 x.f.size, .slice x.ra x.f.rs.length x.rc] 63)
        have hF1 := Blk.new wr 63 #[.int .i64 x.f.sect, .int .i64 x.f.align, .string x.f.group, .slice x.ba x.f.bs.length x.bc, .int .i64 x.f.size, .slice x.ra x.f.rs.length x.rc]
        have hb1' := (Below.refl wr.heap.size wr).alloc (Nat.le_refl _) (.cells #[.int .i64 x.f.sect, .int .i64 x.f.align, .string x.f.group, .slice x.ba x.f.bs.length x.bc, .int .i64 x.f.size, .slice x.ra x.f.rs.length x.rc] 63)
        have z1 : wr.heap.size < (wr.alloc (.cells #[.int .i64 x.f.sect, .int .i64 x.f.align, .string x.f.group, .slice x.ba x.f.bs.length x.bc, .int .i64 x.f.size, .slice x.ra x.f.rs.length x.rc] 63)).heap.size := by simp
        obtain ⟨W1, hW1⟩ : ∃ W, W = wr.alloc (.cells #[.int .i64 x.f.sect, .int .i64 x.f.align, .string x.f.group, .slice x.ba x.f.bs.length x.bc, .int .i64 x.f.size, .slice x.ra x.f.rs.length x.rc] 63) := ⟨_, rfl⟩
        rw [← hW1] at hP1 hF1 hb1' z1 ⊢
        clear hW1
        have hx1 := hx0.keep hb1' hb1'.size
        have p0 := hP1.cell 0
        have p3 := hF1.cell 3
        have p5 := hF1.cell 5
        have gP : g ≠ w.heap.size := fun e => by have := own_blk_ne hO hP (by decide); simp [Value.ownBlock] at this; exact this e
        have gF : g ≠ wr.heap.size := fun e => by have := (hO.lt g rfl).2; omega
        have kk0 : (0 : Int) ≤ (k : Int) := by omega
        have kk1 : (k : Int) < (frs.length : Int) := by omega
        clear d0 d1 d2 d3 d4 d5
        refine wp_region_held_drew (S := (fun w' => w'.cell? ⟨w.heap.size, 0, none⟩ = some (.slice (some ⟨g, 0, none⟩) frs.length c1) ∧ w'.cell? ⟨wr.heap.size, 3, none⟩ = some (.slice x.ba x.f.bs.length x.bc) ∧ w'.cell? ⟨wr.heap.size, 5, none⟩ = some (.slice x.ra x.f.rs.length x.rc))) (by kernel_rfl) ?_ (fun hHeld => ?_)
        focus ((try dsimp only); go_keep)
        (refine wpAnyH_take (i := 0) (oi := { dst := some 21, op := Op.fieldAddr 25 (Operand.tmp 1) 0, type := 0, pos := "obj.go:114", after := #[], guard := none }) (v := ?_) rfl (by kernel_rfl) (by kernel_rfl) (by kernel_rfl) (fun _ _ _ h => h) (Or.inl ⟨by rfl, ?_⟩) (by assumption) ?_; rotate_left; (focus (intro w hSw; (try dsimp only at hSw); go_simp; (try with_reducible rfl))); (try simp only [Act.put, List.setIfInBounds_toArray, List.set_cons_zero, List.set_cons_succ]))
        (refine wpAnyH_take (i := 1) (oi := { dst := some 22, op := Op.load 22 (Operand.tmp 21), type := 22, pos := "obj.go:114", after := #[{ on := 0, ground := Ground.data }], guard := none }) (v := ?_) rfl (by kernel_rfl) (by kernel_rfl) (by kernel_rfl) (fun _ _ _ h => h) (Or.inl ⟨by rfl, ?_⟩) (by assumption) ?_; rotate_left; (focus (intro w hSw; (try dsimp only at hSw); go_simp; (try with_reducible rfl))); (try simp only [Act.put, List.setIfInBounds_toArray, List.set_cons_zero, List.set_cons_succ]))
        (refine wpAnyH_take (i := 2) (oi := { dst := some 23, op := Op.move (Operand.tmp 3), type := 3, pos := "obj.go:114", after := #[], guard := none }) (v := ?_) rfl (by kernel_rfl) (by kernel_rfl) (by kernel_rfl) (fun _ _ _ h => h) (Or.inl ⟨by rfl, ?_⟩) (by assumption) ?_; rotate_left; (focus (intro w hSw; (try dsimp only at hSw); go_simp; (try with_reducible rfl))); (try simp only [Act.put, List.setIfInBounds_toArray, List.set_cons_zero, List.set_cons_succ]))
        (refine wpAnyH_take (i := 3) (oi := { dst := some 24, op := Op.fieldAddr 25 (Operand.tmp 1) 0, type := 0, pos := "obj.go:114", after := #[{ on := 14, ground := Ground.gcOnly Departure.lateStores }], guard := none }) (v := ?_) rfl (by kernel_rfl) (by kernel_rfl) (by kernel_rfl) (fun _ _ _ h => h) (Or.inl ⟨by rfl, ?_⟩) (by assumption) ?_; rotate_left; (focus (intro w hSw; (try dsimp only at hSw); go_simp; (try with_reducible rfl))); (try simp only [Act.put, List.setIfInBounds_toArray, List.set_cons_zero, List.set_cons_succ]))
        (refine wpAnyH_take (i := 4) (oi := { dst := some 25, op := Op.load 22 (Operand.tmp 24), type := 22, pos := "obj.go:114", after := #[{ on := 3, ground := Ground.data }, { on := 14, ground := Ground.gcOnly Departure.lateStores }], guard := none }) (v := ?_) rfl (by kernel_rfl) (by kernel_rfl) (by kernel_rfl) (fun _ _ _ h => h) (Or.inl ⟨by rfl, ?_⟩) (by assumption) ?_; rotate_left; (focus (intro w hSw; (try dsimp only at hSw); go_simp; (try with_reducible rfl))); (try simp only [Act.put, List.setIfInBounds_toArray, List.set_cons_zero, List.set_cons_succ]))
        (refine wpAnyH_take (i := 5) (oi := { dst := some 26, op := Op.move (Operand.tmp 3), type := 3, pos := "obj.go:114", after := #[{ on := 14, ground := Ground.gcOnly Departure.lateStores }], guard := none }) (v := ?_) rfl (by kernel_rfl) (by kernel_rfl) (by kernel_rfl) (fun _ _ _ h => h) (Or.inl ⟨by rfl, ?_⟩) (by assumption) ?_; rotate_left; (focus (intro w hSw; (try dsimp only at hSw); go_simp; (try with_reducible rfl))); (try simp only [Act.put, List.setIfInBounds_toArray, List.set_cons_zero, List.set_cons_succ]))
        (refine wpAnyH_take (i := 6) (oi := { dst := some 27, op := Op.fieldAddr 63 (Operand.tmp 4) 3, type := 0, pos := "obj.go:114", after := #[], guard := none }) (v := ?_) rfl (by kernel_rfl) (by kernel_rfl) (by kernel_rfl) (fun _ _ _ h => h) (Or.inl ⟨by rfl, ?_⟩) (by assumption) ?_; rotate_left; (focus (intro w hSw; (try dsimp only at hSw); go_simp; (try with_reducible rfl))); (try simp only [Act.put, List.setIfInBounds_toArray, List.set_cons_zero, List.set_cons_succ]))
        (refine wpAnyH_take (i := 7) (oi := { dst := some 28, op := Op.load 60 (Operand.tmp 27), type := 60, pos := "obj.go:114", after := #[{ on := 6, ground := Ground.data }], guard := none }) (v := ?_) rfl (by kernel_rfl) (by kernel_rfl) (by kernel_rfl) (fun _ _ _ h => h) (Or.inl ⟨by rfl, ?_⟩) (by assumption) ?_; rotate_left; (focus (intro w hSw; (try dsimp only at hSw); go_simp; (try with_reducible rfl))); (try simp only [Act.put, List.setIfInBounds_toArray, List.set_cons_zero, List.set_cons_succ]))
        (refine wpAnyH_take (i := 9) (oi := { dst := some 30, op := Op.fieldAddr 63 (Operand.tmp 4) 5, type := 0, pos := "obj.go:114", after := #[], guard := none }) (v := ?_) rfl (by kernel_rfl) (by kernel_rfl) (by kernel_rfl) (fun _ _ _ h => h) (Or.inl ⟨by rfl, ?_⟩) (by assumption) ?_; rotate_left; (focus (intro w hSw; (try dsimp only at hSw); go_simp; (try with_reducible rfl))); (try simp only [Act.put, List.setIfInBounds_toArray, List.set_cons_zero, List.set_cons_succ]))
        (refine wpAnyH_take (i := 10) (oi := { dst := some 31, op := Op.load 61 (Operand.tmp 30), type := 61, pos := "obj.go:114", after := #[{ on := 9, ground := Ground.data }], guard := none }) (v := ?_) rfl (by kernel_rfl) (by kernel_rfl) (by kernel_rfl) (fun _ _ _ h => h) (Or.inl ⟨by rfl, ?_⟩) (by assumption) ?_; rotate_left; (focus (intro w hSw; (try dsimp only at hSw); go_simp; (try with_reducible rfl))); (try simp only [Act.put, List.setIfInBounds_toArray, List.set_cons_zero, List.set_cons_succ]))
        (refine wpAnyH_ready (rs := [8]) (by kernel_rfl) (by simp) ?_; refine AllReadyH.cons (o := { dst := some 29, op := Op.call { callee := Callee.value (Operand.func 85), args := #[Operand.tmp 28], argTypes := #[60] }, type := 60, pos := "obj.go:114", after := #[{ on := 7, ground := Ground.data }], guard := none }) rfl (fun K hK => ?_) AllReadyH.nil; (try go_simp); (go_at_call 85; refine (cloneBytes_any x.ba x.f.bs.length x.bc (bytesV x.f.bs) _ (by exact hx1.by_) (bytesV_one _) (by omega) hx1.bm).mono ?_; rintro e w1 ⟨v1, rfl, hown1, hb1⟩; obtain ⟨B1, d1, rfl, hd1, _⟩ := own_form hown1; have hb1 : Below W1.heap.size W1 w1 := ((Below.refl _ W1).drew).trans hb1; have hx2 := hx1.all hb1; have hP2 := hP1.all hb1; have hF2 := hF1.all hb1; have q0 := hP2.cell 0; have q3 := hF2.cell 3; have q5 := hF2.cell 5); go_wp2_with fail; refine hK.out _ _ ?_ (fun hHeld => ?_); (focus ((try dsimp only); go_keep)); clear hK K; (try simp only [Act.put, List.setIfInBounds_toArray, List.set_cons_zero, List.set_cons_succ]))
        (refine wpAnyH_ready (rs := [11]) (by kernel_rfl) (by simp) ?_; refine AllReadyH.cons (o := { dst := some 32, op := Op.call { callee := Callee.value (Operand.func 86), args := #[Operand.tmp 31], argTypes := #[61] }, type := 61, pos := "obj.go:114", after := #[{ on := 10, ground := Ground.data }, { on := 8, ground := Ground.chain }], guard := none }) rfl (fun K hK => ?_) AllReadyH.nil; (try go_simp); (go_at_call 86; refine (cloneRels_any x.ra x.f.rs.length x.rc (relsV x.f.rs) _ (by exact hx2.re) (relsV_one _) (by omega) hx2.rm).mono ?_; rintro e w2 ⟨v2, rfl, hown2, hb2⟩; obtain ⟨B2, d2, rfl, hd2, _⟩ := own_form hown2; have hP3 := hP2.all hb2; have hF3 := hF2.all hb2; have r0 := hP3.cell 0; have r3 := hF3.cell 3; have r5 := hF3.cell 5); go_wp2_with fail; refine hK.out _ _ ?_ (fun hHeld => ?_); (focus ((try dsimp only); go_keep)); clear hK K; (try simp only [Act.put, List.setIfInBounds_toArray, List.set_cons_zero, List.set_cons_succ]))
        (refine wpAnyH_take (i := 12) (oi := { dst := some 33, op := Op.indexAddr 22 (Operand.tmp 22) (Operand.tmp 23), type := 0, pos := "obj.go:114", after := #[{ on := 1, ground := Ground.data }, { on := 2, ground := Ground.data }, { on := 0, ground := Ground.phase }, { on := 1, ground := Ground.phase }, { on := 2, ground := Ground.phase }, { on := 3, ground := Ground.textOnly Departure.lateStores }, { on := 4, ground := Ground.textOnly Departure.lateStores }, { on := 5, ground := Ground.textOnly Departure.lateStores }, { on := 6, ground := Ground.phase }, { on := 7, ground := Ground.phase }, { on := 8, ground := Ground.phase }, { on := 9, ground := Ground.textOnly Departure.lateStores }, { on := 10, ground := Ground.textOnly Departure.lateStores }, { on := 11, ground := Ground.phase }], guard := none }) (v := ?_) rfl (by kernel_rfl) (by kernel_rfl) (by kernel_rfl) (fun _ _ _ h => h) (Or.inl ⟨by rfl, ?_⟩) (by assumption) ?_; rotate_left; (focus (intro w hSw; (try dsimp only at hSw); go_simp; (try with_reducible rfl))); (try simp only [Act.put, List.setIfInBounds_toArray, List.set_cons_zero, List.set_cons_succ]))
        (refine wpAnyH_take (i := 13) (oi := { dst := some 34, op := Op.fieldAddr 63 (Operand.tmp 33) 3, type := 0, pos := "obj.go:114", after := #[{ on := 12, ground := Ground.data }, { on := 0, ground := Ground.phase }, { on := 1, ground := Ground.phase }, { on := 2, ground := Ground.phase }, { on := 3, ground := Ground.textOnly Departure.lateStores }, { on := 4, ground := Ground.textOnly Departure.lateStores }, { on := 5, ground := Ground.textOnly Departure.lateStores }, { on := 6, ground := Ground.phase }, { on := 7, ground := Ground.phase }, { on := 8, ground := Ground.phase }, { on := 9, ground := Ground.textOnly Departure.lateStores }, { on := 10, ground := Ground.textOnly Departure.lateStores }, { on := 11, ground := Ground.phase }], guard := none }) (v := ?_) rfl (by kernel_rfl) (by kernel_rfl) (by kernel_rfl) (fun _ _ _ h => h) (Or.inl ⟨by rfl, ?_⟩) (by assumption) ?_; rotate_left; (focus (intro w hSw; (try dsimp only at hSw); go_simp; (try with_reducible rfl))); (try simp only [Act.put, List.setIfInBounds_toArray, List.set_cons_zero, List.set_cons_succ]))
        have hO2 := own_all (own_all (own_all hO hb1') hb1) hb2
        have y3 := (hO2.cellAt (k * 6 + 3) (by omega)).trans (hCL.out 3 _ (by omega) rfl)
        have y5 := (hO2.cellAt (k * 6 + 5) (by omega)).trans (hCL.out 5 _ (by omega) rfl)
        have x3 := hO2.frozenAt (k * 6 + 3)
        have x5 := hO2.frozenAt (k * 6 + 5)
        (refine wpAnyH_ready (rs := [14]) (by kernel_rfl) (by simp) ?_; refine AllReadyH.cons (o := { dst := none, op := Op.store 60 (Operand.tmp 34) (Operand.tmp 29), type := 0, pos := "obj.go:114", after := #[{ on := 13, ground := Ground.data }, { on := 8, ground := Ground.data }, { on := 11, ground := Ground.chain }, { on := 0, ground := Ground.phase }, { on := 1, ground := Ground.phase }, { on := 2, ground := Ground.phase }, { on := 3, ground := Ground.textOnly Departure.lateStores }, { on := 4, ground := Ground.textOnly Departure.lateStores }, { on := 5, ground := Ground.textOnly Departure.lateStores }, { on := 6, ground := Ground.phase }, { on := 7, ground := Ground.phase }, { on := 8, ground := Ground.phase }, { on := 9, ground := Ground.textOnly Departure.lateStores }, { on := 10, ground := Ground.textOnly Departure.lateStores }, { on := 11, ground := Ground.phase }], guard := none }) rfl (fun K hK => ?_) AllReadyH.nil; go_simp; refine hK.out _ _ ?_ (fun hHeld => ?_); (focus ((try dsimp only); go_keep)); clear hK K; (try simp only [Act.put, List.setIfInBounds_toArray, List.set_cons_zero, List.set_cons_succ]))
        (refine wpAnyH_take (i := 15) (oi := { dst := some 35, op := Op.indexAddr 22 (Operand.tmp 25) (Operand.tmp 26), type := 0, pos := "obj.go:114", after := #[{ on := 4, ground := Ground.data }, { on := 5, ground := Ground.data }, { on := 0, ground := Ground.phase }, { on := 1, ground := Ground.phase }, { on := 2, ground := Ground.phase }, { on := 3, ground := Ground.phase }, { on := 4, ground := Ground.phase }, { on := 5, ground := Ground.phase }, { on := 6, ground := Ground.phase }, { on := 7, ground := Ground.phase }, { on := 8, ground := Ground.phase }, { on := 9, ground := Ground.phase }, { on := 10, ground := Ground.phase }, { on := 11, ground := Ground.phase }, { on := 12, ground := Ground.phase }, { on := 13, ground := Ground.phase }, { on := 14, ground := Ground.phase }], guard := none }) (v := ?_) rfl (by kernel_rfl) (by kernel_rfl) (by kernel_rfl) (fun _ _ _ h => h) (Or.inl ⟨by rfl, ?_⟩) (by assumption) ?_; rotate_left; (focus (intro w hSw; (try dsimp only at hSw); go_simp; (try with_reducible rfl))); (try simp only [Act.put, List.setIfInBounds_toArray, List.set_cons_zero, List.set_cons_succ]))
        (refine wpAnyH_take (i := 16) (oi := { dst := some 36, op := Op.fieldAddr 63 (Operand.tmp 35) 5, type := 0, pos := "obj.go:114", after := #[{ on := 15, ground := Ground.data }, { on := 0, ground := Ground.phase }, { on := 1, ground := Ground.phase }, { on := 2, ground := Ground.phase }, { on := 3, ground := Ground.phase }, { on := 4, ground := Ground.phase }, { on := 5, ground := Ground.phase }, { on := 6, ground := Ground.phase }, { on := 7, ground := Ground.phase }, { on := 8, ground := Ground.phase }, { on := 9, ground := Ground.phase }, { on := 10, ground := Ground.phase }, { on := 11, ground := Ground.phase }, { on := 12, ground := Ground.phase }, { on := 13, ground := Ground.phase }, { on := 14, ground := Ground.phase }], guard := none }) (v := ?_) rfl (by kernel_rfl) (by kernel_rfl) (by kernel_rfl) (fun _ _ _ h => h) (Or.inl ⟨by rfl, ?_⟩) (by assumption) ?_; rotate_left; (focus (intro w hSw; (try dsimp only at hSw); go_simp; (try with_reducible rfl))); (try simp only [Act.put, List.setIfInBounds_toArray, List.set_cons_zero, List.set_cons_succ]))
        (refine wpAnyH_ready (rs := [17]) (by kernel_rfl) (by simp) ?_; refine AllReadyH.cons (o := { dst := none, op := Op.store 61 (Operand.tmp 36) (Operand.tmp 32), type := 0, pos := "obj.go:114", after := #[{ on := 16, ground := Ground.data }, { on := 11, ground := Ground.data }, { on := 14, ground := Ground.chain }, { on := 0, ground := Ground.phase }, { on := 1, ground := Ground.phase }, { on := 2, ground := Ground.phase }, { on := 3, ground := Ground.phase }, { on := 4, ground := Ground.phase }, { on := 5, ground := Ground.phase }, { on := 6, ground := Ground.phase }, { on := 7, ground := Ground.phase }, { on := 8, ground := Ground.phase }, { on := 9, ground := Ground.phase }, { on := 10, ground := Ground.phase }, { on := 11, ground := Ground.phase }, { on := 12, ground := Ground.phase }, { on := 13, ground := Ground.phase }, { on := 14, ground := Ground.phase }], guard := none }) rfl (fun K hK => ?_) AllReadyH.nil; go_simp; refine hK.out _ _ ?_ (fun hHeld => ?_); (focus ((try dsimp only); go_keep)); clear hK K; (try simp only [Act.put, List.setIfInBounds_toArray, List.set_cons_zero, List.set_cons_succ]))
        refine wpAnyH_done (by kernel_rfl) ?_ _
        go_wp2
        go_roundw
        case rel =>
          have i1 : wr.heap.size ≤ W1.heap.size := hb1'.size
          have i2 := hb1.size
          have hR3 := ((hR.all hb1').all hb1).all hb2
          have hD3 := own_all (own_all (own_all hD hb1') hb1) hb2
          have gR : g ≠ w.heap.size + 1 := fun e => by have := own_blk_ne hO2 hR3 (by decide); simp [Value.ownBlock] at this; exact this e
          have og : (Value.slice (some ⟨g, 0, none⟩) frs.length c1).ownBlock = some g := rfl
          have hy1 := (own_all hown1 hb2).mono (base' := w.heap.size) (by show w.heap.size ≤ W1.heap.size; have := hb.size; omega)
          have hy2 := hown2.mono (base' := w.heap.size) (by have := hb.size; omega)
          have hst := ((hO2.stored (k * 6 + 3) (.slice B1 x.f.bs.length d1)).1.stored (k * 6 + 5) (.slice B2 x.f.rs.length d2)).1
          have hset := @fgsV_set done (frs.drop (k + 1)) x ⟨x.f, B1, d1, B2, d2⟩ rfl rfl rfl rfl
          rw [hdl.out] at hset
          have hset' : ((fgsV (done ++ x :: frs.drop (k + 1))).set (k * 6 + 3) (.slice B1 x.f.bs.length d1)).set (k * 6 + 5) (.slice B2 x.f.rs.length d2) = fgsV ((done ++ [⟨x.f, B1, d1, B2, d2⟩]) ++ frs.drop (k + 1)) := hset
          rw [hset'] at hst
          have hB2 : Below w.heap.size w w2 := ((hb.trans (hb1'.mono hb.size)).trans (hb1.mono (by have := hb.size; omega))).trans (hb2.mono (by have := hb.size; omega))
          have nd := own_ne_own hO2 hD3 (by decide) og
          refine ⟨k + 1, done ++ [⟨x.f, B1, d1, B2, d2⟩], by omega, by go_num, Lib.hid (by rw [List.length_append, hdl.out]; rfl), Lib.hid ?_, (hP3.far gP.symm _).far gP.symm _, (hR3.far gR.symm _).far gR.symm _, hst, own_setCell (own_setCell hD3 nd _) nd _, Lib.hid ?_, Lib.hid ?_, by (repeat' (first | exact Below.refl _ _ | assumption | refine Below.setCell ?_ (by first | omega | exact Below.size (by assumption) | (simp; done) | (simp; omega)) _ | refine Below.alloc ?_ (by first | omega | exact Below.size (by assumption) | (simp; done) | (simp; omega)) _ | refine Below.drew ?_ | refine below_drewN ?_ _))⟩
          · rw [List.map_append, hdf.out]; exact hxf.out
          · intro z hz
            rcases List.mem_append.1 hz with hz | hz
            · have hz' := (((hE.out z hz).all hb1').all hb1).all hb2
              exact (hz'.set_ (own_ne_own hO2 hz'.by_ (by decide) og) (own_ne_own hO2 hz'.re (by decide) og) _).set_ (own_ne_own hO2 hz'.by_ (by decide) og) (own_ne_own hO2 hz'.re (by decide) og) _
            · obtain rfl : z = ⟨x.f, B1, d1, B2, d2⟩ := by simpa using hz
              have hz' : FgM.Own w2 w.heap.size ⟨x.f, B1, d1, B2, d2⟩ := ⟨hy1, hy2⟩
              exact (hz'.set_ (own_ne_own hO2 hz'.by_ (by decide) og) (own_ne_own hO2 hz'.re (by decide) og) _).set_ (own_ne_own hO2 hz'.by_ (by decide) og) (own_ne_own hO2 hz'.re (by decide) og) _
          · refine List.pairwise_append.2 ⟨hA.out, List.pairwise_singleton _ _, fun z hz y hy g' h1 h2 => ?_⟩
            obtain rfl : y = ⟨x.f, B1, d1, B2, d2⟩ := by simpa using hy
            have e1 := ((hE.out z hz).re.lt g' h1).2
            have e2 := (hown2.lt g' h2).1
            omega
        case measure => simp [intOf]; omega
      · obtain rfl : k = frs.length := by omega
        have p0 := hP.cell 0
        have p1 := hP.cell 1
        have r0 := hR.cell 0
        have r1 := hR.cell 1
        have g0 := hR.frozen 0
        have g1 := hR.frozen 1
        have hE' : Hid (done.map FgM.f = frs.map FgM.f) := by have := hdf.out; rw [List.take_length] at this; exact this
        have hO' := hO
        rw [List.drop_length, List.append_nil] at hO'
        go_wp2
        have hw5 : Below w.heap.size w ((wr.setCell ⟨w.heap.size + 1, 0, none⟩ (.slice A1 frs.length c1)).setCell ⟨w.heap.size + 1, 1, none⟩ (.slice A2 dfs.length c2)) := by (repeat' (first | exact Below.refl _ _ | assumption | refine Below.setCell ?_ (by first | omega | exact Below.size (by assumption) | (simp; done) | (simp; omega)) _ | refine Below.alloc ?_ (by first | omega | exact Below.size (by assumption) | (simp; done) | (simp; omega)) _ | refine Below.drew ?_ | refine below_drewN ?_ _))
        have n1 := own_blk_ne hO' hR (by decide)
        have n2 := own_blk_ne hD hR (by decide)
        have hO5 := own_setCell (own_setCell hO' n1 (.slice A1 frs.length c1) (p := ⟨w.heap.size + 1, 0, none⟩)) n1 (.slice A2 dfs.length c2) (p := ⟨w.heap.size + 1, 1, none⟩)
        have hD5 := own_setCell (own_setCell hD n2 (.slice A1 frs.length c1) (p := ⟨w.heap.size + 1, 0, none⟩)) n2 (.slice A2 dfs.length c2) (p := ⟨w.heap.size + 1, 1, none⟩)
        refine bodyPost_ret (v := .agg #[.slice A1 frs.length c1, .slice A2 dfs.length c2]) (by simp [results, Tryd.results47, go_sem, r0, r1]) rfl ⟨⟨done, dfs, A1, c1, A2, c2⟩, ?_, ⟨?_, hD5, ?_, hA.out⟩, ?_, hw5⟩
        · simp only [hdl.out]
        · show World.ownsRow _ _ _ _ (.slice A1 done.length c1) done.length _
          rw [hdl.out]; exact hO5
        · intro z hz
          have hz' := hE.out z hz
          have m1 := own_blk_ne hz'.by_ hR (by decide)
          have m2 := own_blk_ne hz'.re hR (by decide)
          exact (hz'.set_ m1 m2 _).set_ m1 m2 _
        · simp only [PtM.er, hE'.out]
end Go.Proofs.YtmlomnhjbmocfaaDoor
