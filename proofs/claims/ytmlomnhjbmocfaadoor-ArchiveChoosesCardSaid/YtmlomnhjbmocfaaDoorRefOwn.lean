/- ropewalkref.OwnPart: what it computes. -/
import Derived.Test.YtmlomnhjbmocfaaDoorCopyW
import Derived.Test.YtmlomnhjbmocfaaDoorDropW
import Derived.Test.YtmlomnhjbmocfaaDoorB1
set_option linter.all false
namespace Go.Proofs.YtmlomnhjbmocfaaDoor
open Go.RowKit

/-- No part of it is longer than a machine's memory. -/
structure PtM.Fit (p : PtM) : Prop where
  fr : p.frs.length * 88 ≤ 140737488355328
  df : p.dfs.length * 56 ≤ 140737488355328
  by_ : ∀ x ∈ p.frs, x.f.bs.length ≤ 140737488355328
  re : ∀ x ∈ p.frs, x.f.rs.length * 48 ≤ 140737488355328
theorem PtM.Small.fit {p : PtM} (h : p.Small) : p.Fit :=
  ⟨by have := h.fr; omega, by have := h.df; omega, fun x hx => by have := h.by_ x hx; omega, fun x hx => by have := h.re x hx; omega⟩

theorem FgM.Own.mono' {w : World} {base base' : Nat} {x : FgM} (h : x.Own w base) (hB : base' ≤ base) : x.Own w base' := ⟨h.by_.mono hB, h.re.mono hB⟩

/-- While the fragments are laid. -/
structure RO (wr : World) (base : Nat) (P : Array Value) (z : Value) (done : List FgM) : Prop where
  hP : Blk wr base 25 P
  hR : Blk wr (base + 1) 25 #[.slice none 0 0, .slice none 0 0]
  hO : Blk wr (base + 2) 25 #[z, .slice none 0 0]
  hz : wr.ownsRow base 63 6 z done.length (fgsV done)
  each : ∀ x ∈ done, x.Own wr base
  apart : ApartR done
  le : base + 3 ≤ wr.heap.size
theorem RO.all {wr w' : World} {base : Nat} {P : Array Value} {z : Value} {done : List FgM} (h : RO wr base P z done) (hb : Below wr.heap.size wr w') : RO w' base P z done :=
  ⟨h.hP.all hb, h.hR.all hb, h.hO.all hb, own_all h.hz hb, fun x hx => (h.each x hx).all hb, h.apart, by have := hb.size; have := h.le; omega⟩
theorem RO.push {wr w5 : World} {base : Nat} {P : Array Value} {z v' : Value} {done : List FgM} {y : FgM} {N : Nat} {o : Obj} (h : RO wr base P z done) (hy : y.Own wr N) (hN : base ≤ N) (hfr : ∀ x ∈ done, ∀ g, x.reV.ownBlock = some g → g < N)
    (hg : (wr.alloc o).grownBy w5 z.ownBlock) (ho : w5.ownsRow base 63 6 v' (done.length + 1) (fgsV done ++ y.cells)) :
    RO (w5.setCell ⟨base + 2, 0, none⟩ v') base P v' (done ++ [y]) := by
  have hz := h.hz.alloc o
  have hO := (h.hO.alloc o).grown hg (own_blk_ne hz (h.hO.alloc o) (by decide)).symm
  have hP := (h.hP.alloc o).grown hg (own_blk_ne hz (h.hP.alloc o) (by decide)).symm
  have hR := (h.hR.alloc o).grown hg (own_blk_ne hz (h.hR.alloc o) (by decide)).symm
  have ho' : w5.ownsRow base 63 6 v' (done ++ [y]).length (fgsV (done ++ [y])) := by
    rw [fgsV_append, List.length_append]
    simpa [fgsV] using ho
  refine ⟨hP.far (by simp) _, hR.far (by simp) _, hO.set_ 0 _, own_setCell ho' (own_blk_ne ho' hO (by decide)) _, ?_, ?_, ?_⟩
  · intro x hx
    rcases List.mem_append.1 hx with hx | hx
    · exact (((h.each x hx).alloc o).row hz hg (by decide) (by decide)).blk hO (by decide) (by decide) _
    · obtain rfl : x = y := by simpa using hx
      have hy' : x.Own wr base := ⟨hy.by_.mono hN, hy.re.mono hN⟩
      exact ((hy'.alloc o).row hz hg (by decide) (by decide)).blk hO (by decide) (by decide) _
  · refine List.pairwise_append.2 ⟨h.apart, List.pairwise_singleton _ _, fun x hx y' hy' g h1 h2 => ?_⟩
    obtain rfl : y' = y := by simpa using hy'
    have e1 := hfr x hx g h1
    have e2 := (hy.re.lt g h2).1
    omega
  · have h1 := hg.size
    have h2 := h.le
    simp [World.setCell] at h1 ⊢
    omega

set_option maxHeartbeats 20000000 in
set_option maxRecDepth 100000 in
theorem refOwn_any (p : PtM) (w : World) (h : p.At w w.heap.size) (hs : p.Fit) :
    Calls Tryd.prog 50 #[.agg #[.slice p.fa p.frs.length p.fc, .slice p.da p.dfs.length p.dc]] w (CopyIs w p) := by
  obtain ⟨hf, he, hd, hfm, hdm⟩ := h
  obtain ⟨s1, s2, s3, s4⟩ := hs
  obtain ⟨i0, hi, hia, hib, hic⟩ := info_parts Tryd.infoFrags
  obtain ⟨i1, hi1, hia1, hib1, hic1⟩ := info_parts Tryd.infoBytes
  obtain ⟨i2, hi2, hia2, hib2, hic2⟩ := info_parts Tryd.infoRels
  obtain ⟨i3, hi3, hia3, hib3, hic3⟩ := info_parts Tryd.infoDefs
  obtain ⟨frs, dfs, fa, fc, da, dc⟩ := p
  simp only at *
  have HE := Lib.hid he
  have S3 := Lib.hid s3
  have S4 := Lib.hid s4
  clear he s3 s4
  have hb0 : Below w.heap.size w (((w.alloc (.cells #[.slice fa frs.length fc, .slice da dfs.length dc] 25)).alloc (.cells #[.slice none 0 0, .slice none 0 0] 25)).alloc (.cells #[.slice none 0 0, .slice none 0 0] 25)) := by (repeat' (first | exact Below.refl _ _ | assumption | refine Below.setCell ?_ (by first | omega | exact Below.size (by assumption) | (simp; done) | (simp; omega)) _ | refine Below.alloc ?_ (by first | omega | exact Below.size (by assumption) | (simp; done) | (simp; omega)) _ | refine Below.drew ?_ | refine below_drewN ?_ _))
  have hRO : RO (((w.alloc (.cells #[.slice fa frs.length fc, .slice da dfs.length dc] 25)).alloc (.cells #[.slice none 0 0, .slice none 0 0] 25)).alloc (.cells #[.slice none 0 0, .slice none 0 0] 25)) w.heap.size #[.slice fa frs.length fc, .slice da dfs.length dc] (.slice none 0 0) [] :=
    ⟨((Blk.new' w 25 #[.slice fa frs.length fc, .slice da dfs.length dc] rfl).alloc _).alloc _, (Blk.new' _ 25 #[.slice none 0 0, .slice none 0 0] (by simp)).alloc _, Blk.new' _ 25 #[.slice none 0 0, .slice none 0 0] (by simp), World.ownsRow_nil _ _ _ _, (fun x hx => by cases hx), List.Pairwise.nil, by simp⟩
  go_enter Tryd.func50, Tryd.ntmps50
  go_upto_region 2 with (fail)
  obtain ⟨W0, hW0⟩ : ∃ W, W = (((w.alloc (.cells #[.slice fa frs.length fc, .slice da dfs.length dc] 25)).alloc (.cells #[.slice none 0 0, .slice none 0 0] 25)).alloc (.cells #[.slice none 0 0, .slice none 0 0] 25)) := ⟨_, rfl⟩
  rw [← hW0] at hRO hb0 ⊢
  clear hW0
  have p0 := hRO.hP.cell 0
  go_wp2_with fail
  clear p0
  go_loopw [9] (fun i wr => ∃ (k : Nat) (z : Value) (done : List FgM), k ≤ frs.length ∧ i = .int .i64 k ∧ Hid (done.length = k) ∧ Hid (done.map FgM.f = (frs.take k).map FgM.f) ∧ RO wr w.heap.size #[.slice fa frs.length fc, .slice da dfs.length dc] z done ∧ Below w.heap.size w wr) (fun i _ => frs.length - (intOf i).toNat)
  case atStart => exact ⟨0, _, [], Nat.zero_le _, rfl, Lib.hid rfl, Lib.hid (by simp), hRO, hb0⟩
  case round =>
    clear hRO hb0
    obtain ⟨k, z, done, hk, rfl, hdl, hdf, hRO, hb⟩ := hrel
    have hdl' := hdl.out
    subst hdl'
    by_cases hlt : done.length < frs.length
    · obtain ⟨x, hx⟩ : ∃ x, frs[done.length]? = some x := ⟨_, List.getElem?_eq_getElem hlt⟩
      obtain ⟨bx, ox, rfl, hbx, c0, c1, c2, c3, c4, c5⟩ := fg_get (hf.below hb) hx
      have hX := (HE.out x (List.mem_of_getElem? hx)).keep hb hb.size
      have l3 := S3.out x (List.mem_of_getElem? hx)
      have l4 := S4.out x (List.mem_of_getElem? hx)
      have hxf : Hid ((frs.take done.length).map FgM.f ++ [x.f] = (frs.take (done.length + 1)).map FgM.f) := by
        show _ = _
        rw [List.take_add_one, List.map_append, hx]; rfl
      clear hx
      go_upto_region 5 with (fail)
      have kx := Blk.new wr 63 #[.int .i64 x.f.sect, .int .i64 x.f.align, .string x.f.group, .slice x.ba x.f.bs.length x.bc, .int .i64 x.f.size, .slice x.ra x.f.rs.length x.rc]
      have hs1 : Below wr.heap.size wr (wr.alloc (.cells #[.int .i64 x.f.sect, .int .i64 x.f.align, .string x.f.group, .slice x.ba x.f.bs.length x.bc, .int .i64 x.f.size, .slice x.ra x.f.rs.length x.rc] 63)) := by (repeat' (first | exact Below.refl _ _ | assumption | refine Below.setCell ?_ (by first | omega | exact Below.size (by assumption) | (simp; done) | (simp; omega)) _ | refine Below.alloc ?_ (by first | omega | exact Below.size (by assumption) | (simp; done) | (simp; omega)) _ | refine Below.drew ?_ | refine below_drewN ?_ _))
      obtain ⟨W1, hW1⟩ : ∃ W, W = wr.alloc (.cells #[.int .i64 x.f.sect, .int .i64 x.f.align, .string x.f.group, .slice x.ba x.f.bs.length x.bc, .int .i64 x.f.size, .slice x.ra x.f.rs.length x.rc] 63) := ⟨_, rfl⟩
      rw [← hW1] at kx hs1 ⊢
      clear hW1 c0 c1 c2 c3 c4 c5
      have x3 := kx.cell 3
      have x5 := kx.cell 5
      go_cut [16] (fun _ wx => ∃ y : FgM, y.f = x.f ∧ Blk wx wr.heap.size 63 #[.int .i64 x.f.sect, .int .i64 x.f.align, .string x.f.group, .slice y.ba x.f.bs.length y.bc, .int .i64 x.f.size, .slice y.ra x.f.rs.length y.rc] ∧ y.Own wx wr.heap.size ∧ Below wr.heap.size wr wx)
      case first =>
        have hX1 := hX.keep hs1 hs1.size
        have hS : Hid (∀ w', Below W1.heap.size W1 w' → (w'.cell? ⟨wr.heap.size, 3, none⟩ = some (.slice x.ba x.f.bs.length x.bc) ∧ w'.cell? ⟨wr.heap.size, 5, none⟩ = some (.slice x.ra x.f.rs.length x.rc))) := fun w' h => ⟨(kx.all h).cell 3, (kx.all h).cell 5⟩
        clear hb
        have hb := (Below.refl W1.heap.size W1).drew
        refine wp_region_late (S := (fun w' => w'.cell? ⟨wr.heap.size, 3, none⟩ = some (.slice x.ba x.f.bs.length x.bc) ∧ w'.cell? ⟨wr.heap.size, 5, none⟩ = some (.slice x.ra x.f.rs.length x.rc))) [9, 10, 11] (by kernel_rfl) (hS.out _ hb) (fun hHeld => ?_)
        obtain ⟨wv, hwv⟩ : ∃ x, x = W1.drew := ⟨_, rfl⟩
        rw [← hwv] at hb hHeld ⊢
        clear hwv x3 x5
        (refine wpAnyL_take (i := 1) (oi := { dst := some 14, op := Op.fieldAddr 63 (Operand.tmp 5) 3, type := 0, pos := "parts.go:113", after := #[], guard := none }) (v := ?_) rfl (by kernel_rfl) (by kernel_rfl) (by kernel_rfl) (fun _ _ _ h => h) (Or.inl ⟨by rfl, ?_⟩) (by assumption) (by kernel_rfl) (by rfl) ?_; rotate_left; (focus (intro w hSw; (try dsimp only at hSw); go_simp; (try with_reducible rfl))); (try simp only [Act.put, List.setIfInBounds_toArray, List.set_cons_zero, List.set_cons_succ]))
        (refine wpAnyL_take (i := 2) (oi := { dst := some 15, op := Op.load 60 (Operand.tmp 14), type := 60, pos := "parts.go:113", after := #[{ on := 1, ground := Ground.data }], guard := none }) (v := ?_) rfl (by kernel_rfl) (by kernel_rfl) (by kernel_rfl) (fun _ _ _ h => h) (Or.inl ⟨by rfl, ?_⟩) (by assumption) (by kernel_rfl) (by rfl) ?_; rotate_left; (focus (intro w hSw; (try dsimp only at hSw); go_simp; (try with_reducible rfl))); (try simp only [Act.put, List.setIfInBounds_toArray, List.set_cons_zero, List.set_cons_succ]))
        (refine wpAnyL_take (i := 5) (oi := { dst := some 18, op := Op.fieldAddr 63 (Operand.tmp 5) 5, type := 0, pos := "parts.go:113", after := #[], guard := none }) (v := ?_) rfl (by kernel_rfl) (by kernel_rfl) (by kernel_rfl) (fun _ _ _ h => h) (Or.inl ⟨by rfl, ?_⟩) (by assumption) (by kernel_rfl) (by rfl) ?_; rotate_left; (focus (intro w hSw; (try dsimp only at hSw); go_simp; (try with_reducible rfl))); (try simp only [Act.put, List.setIfInBounds_toArray, List.set_cons_zero, List.set_cons_succ]))
        (refine wpAnyL_take (i := 6) (oi := { dst := some 19, op := Op.load 61 (Operand.tmp 18), type := 61, pos := "parts.go:113", after := #[{ on := 5, ground := Ground.data }], guard := none }) (v := ?_) rfl (by kernel_rfl) (by kernel_rfl) (by kernel_rfl) (fun _ _ _ h => h) (Or.inl ⟨by rfl, ?_⟩) (by assumption) (by kernel_rfl) (by rfl) ?_; rotate_left; (focus (intro w hSw; (try dsimp only at hSw); go_simp; (try with_reducible rfl))); (try simp only [Act.put, List.setIfInBounds_toArray, List.set_cons_zero, List.set_cons_succ]))
        (refine wpAnyL_ready (rs := [0, 4]) (by kernel_rfl) (by simp) ?_; refine List.forall_mem_cons.2 ⟨?_, List.forall_mem_cons.2 ⟨?_, fun _ h => by cases h⟩⟩)
        · ((refine stepL (o := { dst := some 13, op := Op.buildSlice 60 0 #[], type := 60, pos := "parts.go:113", after := #[], guard := none }) rfl (fun K hK => ?_); go_simp); refine hK.out _ _ (hS.out _ (hb.alloc hb.size _)) (fun hHeld => ?_); (clear hK K; (try simp only [Act.put, List.setIfInBounds_toArray, List.set_cons_zero, List.set_cons_succ])); have rb : World.ownsRow (wv.alloc (.cells #[] 5)) W1.heap.size 5 1 (.slice (some ⟨wv.heap.size, 0, none⟩) 0 0) 0 [] := World.ownsRow_made _ _ _ hb.size (Nat.zero_le _) rfl; (try have rr := rr.alloc (.cells #[] 5)); have hb := hb.alloc hb.size (.cells #[] 5); obtain ⟨gb, hgb⟩ : ∃ g, g = wv.heap.size := ⟨_, rfl⟩; rw [← hgb] at rb ⊢; clear hgb; obtain ⟨wv, hwv⟩ : ∃ x, x = wv.alloc (.cells #[] 5) := ⟨_, rfl⟩; rw [← hwv] at rb hb hHeld ⊢; (try rw [← hwv] at rr); clear hwv)
          (refine wpAnyL_ready (rs := [3, 4]) (by kernel_rfl) (by simp) ?_; refine List.forall_mem_cons.2 ⟨?_, List.forall_mem_cons.2 ⟨?_, fun _ h => by cases h⟩⟩)
          · (refine stepL (o := { dst := some 16, op := Op.call { callee := Callee.builtin Builtin.append, args := #[Operand.tmp 13, Operand.tmp 15], argTypes := #[60, 60] }, type := 60, pos := "parts.go:113", after := #[{ on := 0, ground := Ground.data }, { on := 2, ground := Ground.data }], guard := none }) rfl (fun K hK => ?_); refine step_append_any _ rfl (.tmp 13) (.tmp 15) 60 rfl W1.heap.size 5 i1 (.int .u8 0) 1 1 Tryd.underlying60 hi1 hia1 hib1 hic1 rfl (by decide) _ _ _ rfl rb _ x.ba x.f.bs.length x.bc (bytesV x.f.bs) rfl (hX1.keep hb hb.size).by_ (bytesV_one _) ?c2 ?c3 ?c4 ?_; (case c2 => have := hX1.bm; unfold maxLen; omega); (case c3 => omega); (case c4 => exact hb.size); intro v1 wn ho hg _; have hbn := hb.grown hg hb.size (fun g hg => (rb.lt g hg).1); refine hK.out _ _ (hS.out _ hbn) (fun hHeld => ?_); (clear hK K; (try simp only [Act.put, List.setIfInBounds_toArray, List.set_cons_zero, List.set_cons_succ])); (try have rr := own_kept rr hg (own_row_ne rr rb (by decide))); have rb : wn.ownsRow W1.heap.size 5 1 v1 x.f.bs.length (bytesV x.f.bs) := (by simpa using ho); have hb := hbn; clear ho hg hbn; obtain ⟨B1, d1, rfl, _, _⟩ := own_form rb; obtain ⟨wv, hwv⟩ : ∃ x, x = wn := ⟨_, rfl⟩; rw [← hwv] at rb hb hHeld ⊢; (try rw [← hwv] at rr); clear hwv)
            (refine wpAnyL_take (i := 8) (oi := { dst := some 21, op := Op.fieldAddr 63 (Operand.tmp 5) 3, type := 0, pos := "parts.go:113", after := #[{ on := 0, ground := Ground.phase }, { on := 1, ground := Ground.phase }, { on := 2, ground := Ground.phase }, { on := 3, ground := Ground.phase }, { on := 4, ground := Ground.textOnly Departure.lateStores }, { on := 5, ground := Ground.phase }, { on := 6, ground := Ground.phase }, { on := 7, ground := Ground.textOnly Departure.lateStoresUnsure }], guard := none }) (v := ?_) rfl (by kernel_rfl) (by kernel_rfl) (by kernel_rfl) (fun _ _ _ h => h) (Or.inl ⟨by rfl, ?_⟩) (by assumption) (by kernel_rfl) (by rfl) ?_; rotate_left; (focus (intro w hSw; (try dsimp only at hSw); go_simp; (try with_reducible rfl))); (try simp only [Act.put, List.setIfInBounds_toArray, List.set_cons_zero, List.set_cons_succ]))
            (refine wpAnyL_ready (rs := [4]) (by kernel_rfl) (by simp) ?_; refine List.forall_mem_cons.2 ⟨?_, fun _ h => by cases h⟩)
            ((refine stepL (o := { dst := some 17, op := Op.buildSlice 61 0 #[], type := 61, pos := "parts.go:113", after := #[], guard := none }) rfl (fun K hK => ?_); go_simp); refine hK.out _ _ (hS.out _ (hb.alloc hb.size _)) (fun hHeld => ?_); (clear hK K; (try simp only [Act.put, List.setIfInBounds_toArray, List.set_cons_zero, List.set_cons_succ])); have rr : World.ownsRow (wv.alloc (.cells #[] 93)) W1.heap.size 93 5 (.slice (some ⟨wv.heap.size, 0, none⟩) 0 0) 0 [] := World.ownsRow_made _ _ _ hb.size (Nat.zero_le _) rfl; (try have rb := rb.alloc (.cells #[] 93)); have hb := hb.alloc hb.size (.cells #[] 93); obtain ⟨gr, hgr⟩ : ∃ g, g = wv.heap.size := ⟨_, rfl⟩; rw [← hgr] at rr ⊢; clear hgr; obtain ⟨wv, hwv⟩ : ∃ x, x = wv.alloc (.cells #[] 93) := ⟨_, rfl⟩; rw [← hwv] at rr hb hHeld ⊢; (try rw [← hwv] at rb); clear hwv)
            (refine wpAnyL_ready (rs := [7]) (by kernel_rfl) (by simp) ?_; refine List.forall_mem_cons.2 ⟨?_, fun _ h => by cases h⟩)
            (refine stepL (o := { dst := some 20, op := Op.call { callee := Callee.builtin Builtin.append, args := #[Operand.tmp 17, Operand.tmp 19], argTypes := #[61, 61] }, type := 61, pos := "parts.go:113", after := #[{ on := 4, ground := Ground.data }, { on := 6, ground := Ground.data }, { on := 3, ground := Ground.chain }], guard := none }) rfl (fun K hK => ?_); refine step_append_any _ rfl (.tmp 17) (.tmp 19) 61 rfl W1.heap.size 93 i2 _ 5 48 Tryd.underlying61 hi2 hia2 hib2 hic2 rfl (by decide) _ _ _ rfl rr _ x.ra x.f.rs.length x.rc (relsV x.f.rs) rfl (hX1.keep hb hb.size).re (relsV_one _) ?c2 ?c3 ?c4 ?_; (case c2 => have := hX1.rm; unfold maxLen; omega); (case c3 => omega); (case c4 => exact hb.size); intro v2 wn ho hg _; have hbn := hb.grown hg hb.size (fun g hg => (rr.lt g hg).1); refine hK.out _ _ (hS.out _ hbn) (fun hHeld => ?_); (clear hK K; (try simp only [Act.put, List.setIfInBounds_toArray, List.set_cons_zero, List.set_cons_succ])); (try have rb := own_kept rb hg (own_row_ne rb rr (by decide))); have rr : wn.ownsRow W1.heap.size 93 5 v2 x.f.rs.length (relsV x.f.rs) := (by simpa using ho); have hb := hbn; clear ho hg hbn; obtain ⟨B2, d2, rfl, _, _⟩ := own_form rr; obtain ⟨wv, hwv⟩ : ∃ x, x = wn := ⟨_, rfl⟩; rw [← hwv] at rr hb hHeld ⊢; (try rw [← hwv] at rb); clear hwv)
            (have kv := kx.all hb; have s3 := kv.cell 3; have s5 := kv.cell 5; have u3 := kv.frozen 3; have u5 := kv.frozen 5; (refine wpAnyL_ready (rs := [9]) (by kernel_rfl) (by simp) ?_; refine List.forall_mem_cons.2 ⟨stepLate (o := { dst := none, op := Op.store 60 (Operand.tmp 21) (Operand.tmp 16), type := 0, pos := "parts.go:113", after := #[{ on := 8, ground := Ground.data }, { on := 3, ground := Ground.data }, { on := 7, ground := Ground.chain }, { on := 0, ground := Ground.phase }, { on := 1, ground := Ground.phase }, { on := 2, ground := Ground.phase }, { on := 3, ground := Ground.phase }, { on := 4, ground := Ground.textOnly Departure.lateStores }, { on := 5, ground := Ground.phase }, { on := 6, ground := Ground.phase }, { on := 7, ground := Ground.textOnly Departure.lateStoresUnsure }], guard := none }) rfl (by rfl) (fun K hK => ?_), fun _ h => by cases h⟩; go_simp; refine hK.out _ _ ?_; (clear hK K; (try simp only [Act.put, List.setIfInBounds_toArray, List.set_cons_zero, List.set_cons_succ]))); (refine wpAnyL_ready (rs := [10]) (by kernel_rfl) (by simp) ?_; refine List.forall_mem_cons.2 ⟨stepLate (o := { dst := some 22, op := Op.fieldAddr 63 (Operand.tmp 5) 5, type := 0, pos := "parts.go:113", after := #[{ on := 0, ground := Ground.phase }, { on := 1, ground := Ground.phase }, { on := 2, ground := Ground.phase }, { on := 3, ground := Ground.phase }, { on := 4, ground := Ground.phase }, { on := 5, ground := Ground.phase }, { on := 6, ground := Ground.phase }, { on := 7, ground := Ground.phase }, { on := 8, ground := Ground.phase }, { on := 9, ground := Ground.phase }], guard := none }) rfl (by rfl) (fun K hK => ?_), fun _ h => by cases h⟩; go_simp; refine hK.out _ _ ?_; (clear hK K; (try simp only [Act.put, List.setIfInBounds_toArray, List.set_cons_zero, List.set_cons_succ]))); (refine wpAnyL_ready (rs := [11]) (by kernel_rfl) (by simp) ?_; refine List.forall_mem_cons.2 ⟨stepLate (o := { dst := none, op := Op.store 61 (Operand.tmp 22) (Operand.tmp 20), type := 0, pos := "parts.go:113", after := #[{ on := 10, ground := Ground.data }, { on := 7, ground := Ground.data }, { on := 9, ground := Ground.chain }, { on := 0, ground := Ground.phase }, { on := 1, ground := Ground.phase }, { on := 2, ground := Ground.phase }, { on := 3, ground := Ground.phase }, { on := 4, ground := Ground.phase }, { on := 5, ground := Ground.phase }, { on := 6, ground := Ground.phase }, { on := 7, ground := Ground.phase }, { on := 8, ground := Ground.phase }, { on := 9, ground := Ground.phase }], guard := none }) rfl (by rfl) (fun K hK => ?_), fun _ h => by cases h⟩; go_simp; refine hK.out _ _ ?_; (clear hK K; (try simp only [Act.put, List.setIfInBounds_toArray, List.set_cons_zero, List.set_cons_succ]))); refine wpAnyL_done (by kernel_rfl) ?_ _; go_wp2; go_meet; exact ⟨⟨x.f, B1, d1, B2, d2⟩, rfl, (kv.set_ 3 _).set_ 5 _, (FgM.Own.mono' (base := W1.heap.size) ⟨own_setCell (own_setCell rb (own_blk_ne rb kv (by decide)) _) (own_blk_ne rb kv (by decide)) _, own_setCell (own_setCell rr (own_blk_ne rr kv (by decide)) _) (own_blk_ne rr kv (by decide)) _⟩ hs1.size), (((hs1.trans (hb.mono hs1.size)).setCell (Nat.le_refl _) _).setCell (Nat.le_refl _) _)⟩)
          · ((refine stepL (o := { dst := some 17, op := Op.buildSlice 61 0 #[], type := 61, pos := "parts.go:113", after := #[], guard := none }) rfl (fun K hK => ?_); go_simp); refine hK.out _ _ (hS.out _ (hb.alloc hb.size _)) (fun hHeld => ?_); (clear hK K; (try simp only [Act.put, List.setIfInBounds_toArray, List.set_cons_zero, List.set_cons_succ])); have rr : World.ownsRow (wv.alloc (.cells #[] 93)) W1.heap.size 93 5 (.slice (some ⟨wv.heap.size, 0, none⟩) 0 0) 0 [] := World.ownsRow_made _ _ _ hb.size (Nat.zero_le _) rfl; (try have rb := rb.alloc (.cells #[] 93)); have hb := hb.alloc hb.size (.cells #[] 93); obtain ⟨gr, hgr⟩ : ∃ g, g = wv.heap.size := ⟨_, rfl⟩; rw [← hgr] at rr ⊢; clear hgr; obtain ⟨wv, hwv⟩ : ∃ x, x = wv.alloc (.cells #[] 93) := ⟨_, rfl⟩; rw [← hwv] at rr hb hHeld ⊢; (try rw [← hwv] at rb); clear hwv)
            (refine wpAnyL_ready (rs := [3]) (by kernel_rfl) (by simp) ?_; refine List.forall_mem_cons.2 ⟨?_, fun _ h => by cases h⟩)
            (refine stepL (o := { dst := some 16, op := Op.call { callee := Callee.builtin Builtin.append, args := #[Operand.tmp 13, Operand.tmp 15], argTypes := #[60, 60] }, type := 60, pos := "parts.go:113", after := #[{ on := 0, ground := Ground.data }, { on := 2, ground := Ground.data }], guard := none }) rfl (fun K hK => ?_); refine step_append_any _ rfl (.tmp 13) (.tmp 15) 60 rfl W1.heap.size 5 i1 (.int .u8 0) 1 1 Tryd.underlying60 hi1 hia1 hib1 hic1 rfl (by decide) _ _ _ rfl rb _ x.ba x.f.bs.length x.bc (bytesV x.f.bs) rfl (hX1.keep hb hb.size).by_ (bytesV_one _) ?c2 ?c3 ?c4 ?_; (case c2 => have := hX1.bm; unfold maxLen; omega); (case c3 => omega); (case c4 => exact hb.size); intro v1 wn ho hg _; have hbn := hb.grown hg hb.size (fun g hg => (rb.lt g hg).1); refine hK.out _ _ (hS.out _ hbn) (fun hHeld => ?_); (clear hK K; (try simp only [Act.put, List.setIfInBounds_toArray, List.set_cons_zero, List.set_cons_succ])); (try have rr := own_kept rr hg (own_row_ne rr rb (by decide))); have rb : wn.ownsRow W1.heap.size 5 1 v1 x.f.bs.length (bytesV x.f.bs) := (by simpa using ho); have hb := hbn; clear ho hg hbn; obtain ⟨B1, d1, rfl, _, _⟩ := own_form rb; obtain ⟨wv, hwv⟩ : ∃ x, x = wn := ⟨_, rfl⟩; rw [← hwv] at rb hb hHeld ⊢; (try rw [← hwv] at rr); clear hwv)
            (refine wpAnyL_take (i := 8) (oi := { dst := some 21, op := Op.fieldAddr 63 (Operand.tmp 5) 3, type := 0, pos := "parts.go:113", after := #[{ on := 0, ground := Ground.phase }, { on := 1, ground := Ground.phase }, { on := 2, ground := Ground.phase }, { on := 3, ground := Ground.phase }, { on := 4, ground := Ground.textOnly Departure.lateStores }, { on := 5, ground := Ground.phase }, { on := 6, ground := Ground.phase }, { on := 7, ground := Ground.textOnly Departure.lateStoresUnsure }], guard := none }) (v := ?_) rfl (by kernel_rfl) (by kernel_rfl) (by kernel_rfl) (fun _ _ _ h => h) (Or.inl ⟨by rfl, ?_⟩) (by assumption) (by kernel_rfl) (by rfl) ?_; rotate_left; (focus (intro w hSw; (try dsimp only at hSw); go_simp; (try with_reducible rfl))); (try simp only [Act.put, List.setIfInBounds_toArray, List.set_cons_zero, List.set_cons_succ]))
            (refine wpAnyL_ready (rs := [7]) (by kernel_rfl) (by simp) ?_; refine List.forall_mem_cons.2 ⟨?_, fun _ h => by cases h⟩)
            (refine stepL (o := { dst := some 20, op := Op.call { callee := Callee.builtin Builtin.append, args := #[Operand.tmp 17, Operand.tmp 19], argTypes := #[61, 61] }, type := 61, pos := "parts.go:113", after := #[{ on := 4, ground := Ground.data }, { on := 6, ground := Ground.data }, { on := 3, ground := Ground.chain }], guard := none }) rfl (fun K hK => ?_); refine step_append_any _ rfl (.tmp 17) (.tmp 19) 61 rfl W1.heap.size 93 i2 _ 5 48 Tryd.underlying61 hi2 hia2 hib2 hic2 rfl (by decide) _ _ _ rfl rr _ x.ra x.f.rs.length x.rc (relsV x.f.rs) rfl (hX1.keep hb hb.size).re (relsV_one _) ?c2 ?c3 ?c4 ?_; (case c2 => have := hX1.rm; unfold maxLen; omega); (case c3 => omega); (case c4 => exact hb.size); intro v2 wn ho hg _; have hbn := hb.grown hg hb.size (fun g hg => (rr.lt g hg).1); refine hK.out _ _ (hS.out _ hbn) (fun hHeld => ?_); (clear hK K; (try simp only [Act.put, List.setIfInBounds_toArray, List.set_cons_zero, List.set_cons_succ])); (try have rb := own_kept rb hg (own_row_ne rb rr (by decide))); have rr : wn.ownsRow W1.heap.size 93 5 v2 x.f.rs.length (relsV x.f.rs) := (by simpa using ho); have hb := hbn; clear ho hg hbn; obtain ⟨B2, d2, rfl, _, _⟩ := own_form rr; obtain ⟨wv, hwv⟩ : ∃ x, x = wn := ⟨_, rfl⟩; rw [← hwv] at rr hb hHeld ⊢; (try rw [← hwv] at rb); clear hwv)
            (have kv := kx.all hb; have s3 := kv.cell 3; have s5 := kv.cell 5; have u3 := kv.frozen 3; have u5 := kv.frozen 5; (refine wpAnyL_ready (rs := [9]) (by kernel_rfl) (by simp) ?_; refine List.forall_mem_cons.2 ⟨stepLate (o := { dst := none, op := Op.store 60 (Operand.tmp 21) (Operand.tmp 16), type := 0, pos := "parts.go:113", after := #[{ on := 8, ground := Ground.data }, { on := 3, ground := Ground.data }, { on := 7, ground := Ground.chain }, { on := 0, ground := Ground.phase }, { on := 1, ground := Ground.phase }, { on := 2, ground := Ground.phase }, { on := 3, ground := Ground.phase }, { on := 4, ground := Ground.textOnly Departure.lateStores }, { on := 5, ground := Ground.phase }, { on := 6, ground := Ground.phase }, { on := 7, ground := Ground.textOnly Departure.lateStoresUnsure }], guard := none }) rfl (by rfl) (fun K hK => ?_), fun _ h => by cases h⟩; go_simp; refine hK.out _ _ ?_; (clear hK K; (try simp only [Act.put, List.setIfInBounds_toArray, List.set_cons_zero, List.set_cons_succ]))); (refine wpAnyL_ready (rs := [10]) (by kernel_rfl) (by simp) ?_; refine List.forall_mem_cons.2 ⟨stepLate (o := { dst := some 22, op := Op.fieldAddr 63 (Operand.tmp 5) 5, type := 0, pos := "parts.go:113", after := #[{ on := 0, ground := Ground.phase }, { on := 1, ground := Ground.phase }, { on := 2, ground := Ground.phase }, { on := 3, ground := Ground.phase }, { on := 4, ground := Ground.phase }, { on := 5, ground := Ground.phase }, { on := 6, ground := Ground.phase }, { on := 7, ground := Ground.phase }, { on := 8, ground := Ground.phase }, { on := 9, ground := Ground.phase }], guard := none }) rfl (by rfl) (fun K hK => ?_), fun _ h => by cases h⟩; go_simp; refine hK.out _ _ ?_; (clear hK K; (try simp only [Act.put, List.setIfInBounds_toArray, List.set_cons_zero, List.set_cons_succ]))); (refine wpAnyL_ready (rs := [11]) (by kernel_rfl) (by simp) ?_; refine List.forall_mem_cons.2 ⟨stepLate (o := { dst := none, op := Op.store 61 (Operand.tmp 22) (Operand.tmp 20), type := 0, pos := "parts.go:113", after := #[{ on := 10, ground := Ground.data }, { on := 7, ground := Ground.data }, { on := 9, ground := Ground.chain }, { on := 0, ground := Ground.phase }, { on := 1, ground := Ground.phase }, { on := 2, ground := Ground.phase }, { on := 3, ground := Ground.phase }, { on := 4, ground := Ground.phase }, { on := 5, ground := Ground.phase }, { on := 6, ground := Ground.phase }, { on := 7, ground := Ground.phase }, { on := 8, ground := Ground.phase }, { on := 9, ground := Ground.phase }], guard := none }) rfl (by rfl) (fun K hK => ?_), fun _ h => by cases h⟩; go_simp; refine hK.out _ _ ?_; (clear hK K; (try simp only [Act.put, List.setIfInBounds_toArray, List.set_cons_zero, List.set_cons_succ]))); refine wpAnyL_done (by kernel_rfl) ?_ _; go_wp2; go_meet; exact ⟨⟨x.f, B1, d1, B2, d2⟩, rfl, (kv.set_ 3 _).set_ 5 _, (FgM.Own.mono' (base := W1.heap.size) ⟨own_setCell (own_setCell rb (own_blk_ne rb kv (by decide)) _) (own_blk_ne rb kv (by decide)) _, own_setCell (own_setCell rr (own_blk_ne rr kv (by decide)) _) (own_blk_ne rr kv (by decide)) _⟩ hs1.size), (((hs1.trans (hb.mono hs1.size)).setCell (Nat.le_refl _) _).setCell (Nat.le_refl _) _)⟩)
        · ((refine stepL (o := { dst := some 17, op := Op.buildSlice 61 0 #[], type := 61, pos := "parts.go:113", after := #[], guard := none }) rfl (fun K hK => ?_); go_simp); refine hK.out _ _ (hS.out _ (hb.alloc hb.size _)) (fun hHeld => ?_); (clear hK K; (try simp only [Act.put, List.setIfInBounds_toArray, List.set_cons_zero, List.set_cons_succ])); have rr : World.ownsRow (wv.alloc (.cells #[] 93)) W1.heap.size 93 5 (.slice (some ⟨wv.heap.size, 0, none⟩) 0 0) 0 [] := World.ownsRow_made _ _ _ hb.size (Nat.zero_le _) rfl; (try have rb := rb.alloc (.cells #[] 93)); have hb := hb.alloc hb.size (.cells #[] 93); obtain ⟨gr, hgr⟩ : ∃ g, g = wv.heap.size := ⟨_, rfl⟩; rw [← hgr] at rr ⊢; clear hgr; obtain ⟨wv, hwv⟩ : ∃ x, x = wv.alloc (.cells #[] 93) := ⟨_, rfl⟩; rw [← hwv] at rr hb hHeld ⊢; (try rw [← hwv] at rb); clear hwv)
          (refine wpAnyL_ready (rs := [0]) (by kernel_rfl) (by simp) ?_; refine List.forall_mem_cons.2 ⟨?_, fun _ h => by cases h⟩)
          ((refine stepL (o := { dst := some 13, op := Op.buildSlice 60 0 #[], type := 60, pos := "parts.go:113", after := #[], guard := none }) rfl (fun K hK => ?_); go_simp); refine hK.out _ _ (hS.out _ (hb.alloc hb.size _)) (fun hHeld => ?_); (clear hK K; (try simp only [Act.put, List.setIfInBounds_toArray, List.set_cons_zero, List.set_cons_succ])); have rb : World.ownsRow (wv.alloc (.cells #[] 5)) W1.heap.size 5 1 (.slice (some ⟨wv.heap.size, 0, none⟩) 0 0) 0 [] := World.ownsRow_made _ _ _ hb.size (Nat.zero_le _) rfl; (try have rr := rr.alloc (.cells #[] 5)); have hb := hb.alloc hb.size (.cells #[] 5); obtain ⟨gb, hgb⟩ : ∃ g, g = wv.heap.size := ⟨_, rfl⟩; rw [← hgb] at rb ⊢; clear hgb; obtain ⟨wv, hwv⟩ : ∃ x, x = wv.alloc (.cells #[] 5) := ⟨_, rfl⟩; rw [← hwv] at rb hb hHeld ⊢; (try rw [← hwv] at rr); clear hwv)
          (refine wpAnyL_ready (rs := [3]) (by kernel_rfl) (by simp) ?_; refine List.forall_mem_cons.2 ⟨?_, fun _ h => by cases h⟩)
          (refine stepL (o := { dst := some 16, op := Op.call { callee := Callee.builtin Builtin.append, args := #[Operand.tmp 13, Operand.tmp 15], argTypes := #[60, 60] }, type := 60, pos := "parts.go:113", after := #[{ on := 0, ground := Ground.data }, { on := 2, ground := Ground.data }], guard := none }) rfl (fun K hK => ?_); refine step_append_any _ rfl (.tmp 13) (.tmp 15) 60 rfl W1.heap.size 5 i1 (.int .u8 0) 1 1 Tryd.underlying60 hi1 hia1 hib1 hic1 rfl (by decide) _ _ _ rfl rb _ x.ba x.f.bs.length x.bc (bytesV x.f.bs) rfl (hX1.keep hb hb.size).by_ (bytesV_one _) ?c2 ?c3 ?c4 ?_; (case c2 => have := hX1.bm; unfold maxLen; omega); (case c3 => omega); (case c4 => exact hb.size); intro v1 wn ho hg _; have hbn := hb.grown hg hb.size (fun g hg => (rb.lt g hg).1); refine hK.out _ _ (hS.out _ hbn) (fun hHeld => ?_); (clear hK K; (try simp only [Act.put, List.setIfInBounds_toArray, List.set_cons_zero, List.set_cons_succ])); (try have rr := own_kept rr hg (own_row_ne rr rb (by decide))); have rb : wn.ownsRow W1.heap.size 5 1 v1 x.f.bs.length (bytesV x.f.bs) := (by simpa using ho); have hb := hbn; clear ho hg hbn; obtain ⟨B1, d1, rfl, _, _⟩ := own_form rb; obtain ⟨wv, hwv⟩ : ∃ x, x = wn := ⟨_, rfl⟩; rw [← hwv] at rb hb hHeld ⊢; (try rw [← hwv] at rr); clear hwv)
          (refine wpAnyL_take (i := 8) (oi := { dst := some 21, op := Op.fieldAddr 63 (Operand.tmp 5) 3, type := 0, pos := "parts.go:113", after := #[{ on := 0, ground := Ground.phase }, { on := 1, ground := Ground.phase }, { on := 2, ground := Ground.phase }, { on := 3, ground := Ground.phase }, { on := 4, ground := Ground.textOnly Departure.lateStores }, { on := 5, ground := Ground.phase }, { on := 6, ground := Ground.phase }, { on := 7, ground := Ground.textOnly Departure.lateStoresUnsure }], guard := none }) (v := ?_) rfl (by kernel_rfl) (by kernel_rfl) (by kernel_rfl) (fun _ _ _ h => h) (Or.inl ⟨by rfl, ?_⟩) (by assumption) (by kernel_rfl) (by rfl) ?_; rotate_left; (focus (intro w hSw; (try dsimp only at hSw); go_simp; (try with_reducible rfl))); (try simp only [Act.put, List.setIfInBounds_toArray, List.set_cons_zero, List.set_cons_succ]))
          (refine wpAnyL_ready (rs := [7]) (by kernel_rfl) (by simp) ?_; refine List.forall_mem_cons.2 ⟨?_, fun _ h => by cases h⟩)
          (refine stepL (o := { dst := some 20, op := Op.call { callee := Callee.builtin Builtin.append, args := #[Operand.tmp 17, Operand.tmp 19], argTypes := #[61, 61] }, type := 61, pos := "parts.go:113", after := #[{ on := 4, ground := Ground.data }, { on := 6, ground := Ground.data }, { on := 3, ground := Ground.chain }], guard := none }) rfl (fun K hK => ?_); refine step_append_any _ rfl (.tmp 17) (.tmp 19) 61 rfl W1.heap.size 93 i2 _ 5 48 Tryd.underlying61 hi2 hia2 hib2 hic2 rfl (by decide) _ _ _ rfl rr _ x.ra x.f.rs.length x.rc (relsV x.f.rs) rfl (hX1.keep hb hb.size).re (relsV_one _) ?c2 ?c3 ?c4 ?_; (case c2 => have := hX1.rm; unfold maxLen; omega); (case c3 => omega); (case c4 => exact hb.size); intro v2 wn ho hg _; have hbn := hb.grown hg hb.size (fun g hg => (rr.lt g hg).1); refine hK.out _ _ (hS.out _ hbn) (fun hHeld => ?_); (clear hK K; (try simp only [Act.put, List.setIfInBounds_toArray, List.set_cons_zero, List.set_cons_succ])); (try have rb := own_kept rb hg (own_row_ne rb rr (by decide))); have rr : wn.ownsRow W1.heap.size 93 5 v2 x.f.rs.length (relsV x.f.rs) := (by simpa using ho); have hb := hbn; clear ho hg hbn; obtain ⟨B2, d2, rfl, _, _⟩ := own_form rr; obtain ⟨wv, hwv⟩ : ∃ x, x = wn := ⟨_, rfl⟩; rw [← hwv] at rr hb hHeld ⊢; (try rw [← hwv] at rb); clear hwv)
          (have kv := kx.all hb; have s3 := kv.cell 3; have s5 := kv.cell 5; have u3 := kv.frozen 3; have u5 := kv.frozen 5; (refine wpAnyL_ready (rs := [9]) (by kernel_rfl) (by simp) ?_; refine List.forall_mem_cons.2 ⟨stepLate (o := { dst := none, op := Op.store 60 (Operand.tmp 21) (Operand.tmp 16), type := 0, pos := "parts.go:113", after := #[{ on := 8, ground := Ground.data }, { on := 3, ground := Ground.data }, { on := 7, ground := Ground.chain }, { on := 0, ground := Ground.phase }, { on := 1, ground := Ground.phase }, { on := 2, ground := Ground.phase }, { on := 3, ground := Ground.phase }, { on := 4, ground := Ground.textOnly Departure.lateStores }, { on := 5, ground := Ground.phase }, { on := 6, ground := Ground.phase }, { on := 7, ground := Ground.textOnly Departure.lateStoresUnsure }], guard := none }) rfl (by rfl) (fun K hK => ?_), fun _ h => by cases h⟩; go_simp; refine hK.out _ _ ?_; (clear hK K; (try simp only [Act.put, List.setIfInBounds_toArray, List.set_cons_zero, List.set_cons_succ]))); (refine wpAnyL_ready (rs := [10]) (by kernel_rfl) (by simp) ?_; refine List.forall_mem_cons.2 ⟨stepLate (o := { dst := some 22, op := Op.fieldAddr 63 (Operand.tmp 5) 5, type := 0, pos := "parts.go:113", after := #[{ on := 0, ground := Ground.phase }, { on := 1, ground := Ground.phase }, { on := 2, ground := Ground.phase }, { on := 3, ground := Ground.phase }, { on := 4, ground := Ground.phase }, { on := 5, ground := Ground.phase }, { on := 6, ground := Ground.phase }, { on := 7, ground := Ground.phase }, { on := 8, ground := Ground.phase }, { on := 9, ground := Ground.phase }], guard := none }) rfl (by rfl) (fun K hK => ?_), fun _ h => by cases h⟩; go_simp; refine hK.out _ _ ?_; (clear hK K; (try simp only [Act.put, List.setIfInBounds_toArray, List.set_cons_zero, List.set_cons_succ]))); (refine wpAnyL_ready (rs := [11]) (by kernel_rfl) (by simp) ?_; refine List.forall_mem_cons.2 ⟨stepLate (o := { dst := none, op := Op.store 61 (Operand.tmp 22) (Operand.tmp 20), type := 0, pos := "parts.go:113", after := #[{ on := 10, ground := Ground.data }, { on := 7, ground := Ground.data }, { on := 9, ground := Ground.chain }, { on := 0, ground := Ground.phase }, { on := 1, ground := Ground.phase }, { on := 2, ground := Ground.phase }, { on := 3, ground := Ground.phase }, { on := 4, ground := Ground.phase }, { on := 5, ground := Ground.phase }, { on := 6, ground := Ground.phase }, { on := 7, ground := Ground.phase }, { on := 8, ground := Ground.phase }, { on := 9, ground := Ground.phase }], guard := none }) rfl (by rfl) (fun K hK => ?_), fun _ h => by cases h⟩; go_simp; refine hK.out _ _ ?_; (clear hK K; (try simp only [Act.put, List.setIfInBounds_toArray, List.set_cons_zero, List.set_cons_succ]))); refine wpAnyL_done (by kernel_rfl) ?_ _; go_wp2; go_meet; exact ⟨⟨x.f, B1, d1, B2, d2⟩, rfl, (kv.set_ 3 _).set_ 5 _, (FgM.Own.mono' (base := W1.heap.size) ⟨own_setCell (own_setCell rb (own_blk_ne rb kv (by decide)) _) (own_blk_ne rb kv (by decide)) _, own_setCell (own_setCell rr (own_blk_ne rr kv (by decide)) _) (own_blk_ne rr kv (by decide)) _⟩ hs1.size), (((hs1.trans (hb.mono hs1.size)).setCell (Nat.le_refl _) _).setCell (Nat.le_refl _) _)⟩)
      case rest =>
        clear x3 x5 kx hs1
        obtain ⟨y, hyf, kx, hy, hb1⟩ := hcut
        have hRO1 := hRO.all hb1
        have hbc := hb.trans (hb1.mono hb.size)
        have hz0 := hRO.le
        have hfr : ∀ u ∈ done, ∀ g, u.reV.ownBlock = some g → g < wr.heap.size := fun u hu g hg => ((hRO.each u hu).re.lt g hg).2
        obtain ⟨A1, c1, hzz, _, _⟩ := own_form hRO.hz
        subst hzz
        have o0 := hRO1.hO.cell 0
        have o9 := hRO1.hO.frozen 0
        have x0 := kx.cell 0
        have x1 := kx.cell 1
        have x2 := kx.cell 2
        have x3 := kx.cell 3
        have x4 := kx.cell 4
        have x5 := kx.cell 5
        go_wp2_with (at_builtin
                     refine wpList_append_own _ rfl (.tmp 24) (.tmp 26) 22 rfl w.heap.size 63 i0 _ 6 88 Tryd.underlying22 hi hia hib hic rfl (by decide) _ _ _ rfl (hRO1.hz.alloc _) ⟨wc.heap.size, 0, none⟩ 1 1 [.int .i64 x.f.sect, .int .i64 x.f.align, .string x.f.group, .slice y.ba x.f.bs.length y.bc, .int .i64 x.f.size, .slice y.ra x.f.rs.length y.rc] rfl rfl ?c1 ?c2 ?c3 ?c4 ?c5 ?_
                     case c1 => exact fun j u hu => cells_new j u hu
                     case c2 => intro u hu; simp at hu; rcases hu with rfl | rfl | rfl | rfl | rfl | rfl <;> rfl
                     case c3 => unfold maxLen; omega
                     case c4 => omega
                     case c5 => have := hbc.size; simp; omega
                     intro v5 w5 ho5 hg5 _
                     obtain ⟨A5, c5, rfl, _, _⟩ := own_form ho5
                     have hz1 := hRO1.hz.alloc (.cells #[.int .i64 x.f.sect, .int .i64 x.f.align, .string x.f.group, .slice y.ba x.f.bs.length y.bc, .int .i64 x.f.size, .slice y.ra x.f.rs.length y.rc] 63)
                     have hO5 := (hRO1.hO.alloc (.cells #[.int .i64 x.f.sect, .int .i64 x.f.align, .string x.f.group, .slice y.ba x.f.bs.length y.bc, .int .i64 x.f.size, .slice y.ra x.f.rs.length y.rc] 63)).grown hg5 (own_blk_ne hz1 (hRO1.hO.alloc _) (by decide)).symm
                     have d0 := hO5.cell 0
                     have d9 := hO5.frozen 0
                     have hpush := RO.push hRO1 hy (by have := hb.size; omega) hfr hg5 (v' := .slice A5 (done.length + 1) c5) (by simpa [FgM.cells, FgM.byV, FgM.reV, hyf] using ho5)
                     have hb5 : Below w.heap.size w w5 := (hbc.alloc hbc.size _).grown hg5 (by have := hbc.size; simp; omega) (fun g hg => (hz1.lt g hg).1)
                     clear hg5 ho5 hz1 hO5)
        go_roundw
        case rel => exact ⟨done.length + 1, .slice A5 (done.length + 1) c5, done ++ [y], by omega, by go_num, Lib.hid (by rw [List.length_append]; rfl), Lib.hid (by rw [List.map_append, hdf.out, ← hxf.out, ← hyf]; rfl), hpush, by (repeat' (first | exact Below.refl _ _ | assumption | refine Below.setCell ?_ (by first | omega | exact Below.size (by assumption) | (simp; done) | (simp; omega)) _ | refine Below.alloc ?_ (by first | omega | exact Below.size (by assumption) | (simp; done) | (simp; omega)) _ | refine Below.drew ?_ | refine below_drewN ?_ _))⟩
        case measure => simp [intOf]; omega
    · have hk' : done.length = frs.length := by omega
      have hE' : Hid (done.map FgM.f = frs.map FgM.f) := by have := hdf.out; rw [hk', List.take_length] at this; exact this
      have hz0 := hRO.le
      obtain ⟨A1, c1, rfl, _, _⟩ := own_form hRO.hz
      have p1 := hRO.hP.cell 1
      have zl : w.heap.size < wr.heap.size := hRO.hP.lt
      have hdd : Reads wr wr.heap.size 6 da dfs.length (dfsV dfs) := (hd.below hb).more hb.size
      have hmk : (wr.alloc (.cells #[] 70)).ownsRow wr.heap.size 70 6 (.slice (some ⟨wr.heap.size, 0, none⟩) 0 0) 0 [] := World.ownsRow_made _ _ _ (Nat.le_refl _) (Nat.zero_le _) rfl
      go_wp2_with (at_builtin; refine wpList_append_any _ rfl (.tmp 30) (.tmp 32) 23 rfl wr.heap.size 70 i3 _ 6 56 Tryd.underlying23 hi3 hia3 hib3 hic3 rfl (by decide) _ _ _ rfl hmk _ da dfs.length dc (dfsV dfs) rfl (hdd.alloc (Nat.le_refl _) _) (dfsV_one _) ?c2 ?c3 ?c4 ?_
                   case c2 => unfold maxLen; omega
                   case c3 => omega
                   case c4 => simp
                   intro v2 w5 ho2 hg2 _
                   have hb5 : Below wr.heap.size wr w5 := ((Below.refl _ wr).alloc (Nat.le_refl _) _).grown hg2 (by simp) (fun g hg => (hmk.lt g hg).1)
                   have ho2' : w5.ownsRow wr.heap.size 70 6 v2 dfs.length (dfsV dfs) := by simpa using ho2
                   obtain ⟨A2, c2, rfl, _, _⟩ := own_form ho2'
                   have hRO5 := hRO.all hb5
                   have o0 := hRO5.hO.cell 0
                   have o1 := hRO5.hO.cell 1
                   have o8 := hRO5.hO.frozen 0
                   have o9 := hRO5.hO.frozen 1
                   have r0 := hRO5.hR.cell 0
                   have r1 := hRO5.hR.cell 1
                   have r8 := hRO5.hR.frozen 0
                   have r9 := hRO5.hR.frozen 1
                   clear hg2 ho2 hmk p1)
      have hw5 : Below w.heap.size w w5 := hb.trans (hb5.mono hb.size)
      have hwf : Below w.heap.size w (((w5.setCell ⟨w.heap.size + 1 + 1, 1, none⟩ (.slice A2 dfs.length c2)).setCell ⟨w.heap.size + 1, 0, none⟩ (.slice A1 frs.length c1)).setCell ⟨w.heap.size + 1, 1, none⟩ (.slice A2 dfs.length c2)) :=
        ((hw5.setCell (by simp only; omega) _).setCell (by simp) _).setCell (by simp) _
      have ho2'' := ho2'.mono (base' := w.heap.size) hb.size
      have n1 := own_blk_ne hRO5.hz hRO5.hR (by decide)
      have n2 := own_blk_ne hRO5.hz hRO5.hO (by decide)
      have m1 := own_blk_ne ho2'' hRO5.hR (by decide)
      have m2 := own_blk_ne ho2'' hRO5.hO (by decide)
      refine bodyPost_ret (v := .agg #[.slice A1 frs.length c1, .slice A2 dfs.length c2]) (by simp [results, Tryd.results50, go_sem, r0, r1, r8, r9]) rfl ⟨⟨done, dfs, A1, c1, A2, c2⟩, ?_, ⟨?_, ?_, ?_, hRO5.apart⟩, ?_, hwf⟩
      · simp only [hk']
      · exact own_setCell (own_setCell (own_setCell hRO5.hz n2 _) n1 _) n1 _
      · exact own_setCell (own_setCell (own_setCell ho2'' m2 _) m1 _) m1 _
      · intro z hz
        have hz' := hRO5.each z hz
        have q1 := own_blk_ne hz'.by_ hRO5.hR (by decide)
        have q2 := own_blk_ne hz'.re hRO5.hR (by decide)
        have q3 := own_blk_ne hz'.by_ hRO5.hO (by decide)
        have q4 := own_blk_ne hz'.re hRO5.hO (by decide)
        exact ((hz'.set_ q3 q4 _).set_ q1 q2 _).set_ q1 q2 _
      · simp only [PtM.er, hE'.out]
end Go.Proofs.YtmlomnhjbmocfaaDoor
