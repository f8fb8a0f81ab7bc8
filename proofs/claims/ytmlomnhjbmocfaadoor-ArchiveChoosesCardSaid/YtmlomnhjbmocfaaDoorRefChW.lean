/- ropewalkref.Chosen: what it computes. -/
import Derived.Test.YtmlomnhjbmocfaaDoorRefChX
set_option linter.all false
namespace Go.Proofs.YtmlomnhjbmocfaaDoor
open Go.RowKit

set_option maxHeartbeats 40000000 in
set_option maxRecDepth 100000 in
theorem refChosen_any (A Af : Option Addr) (c cf : Nat) (l : List ItM) (first : List ByteArray) (w : World) (h : ItsAt w w.heap.size A l) (hf : Reads w w.heap.size 1 Af first.length (strsV first))
    (hc : ckItems (l.map ItM.er) = 0) (hfl : first.length ≤ 12) (hfs : ∀ s ∈ first, s.size ≤ 8) :
    Calls Tryd.prog 21 #[.slice A l.length c, .slice Af first.length cf] w
      fun e w' => ∃ (Z : Option Addr) (cz : Nat) (v : Value) (qs : List PtM), e = .returned (.tuple #[.slice Z qs.length cz, v]) ∧ PtsAt w' w'.heap.size Z qs ∧ qs.map PtM.er = chosenP (l.map ItM.er) first ∧ qs.length ≤ 96 ∧ Below w.heap.size w w' := by
  have hrow := h.row
  have HIT : Hid (∀ x ∈ l, x.Good w w.heap.size) := h.each
  obtain ⟨h12, hit⟩ := ckItems_zero hc
  rw [List.length_map] at h12
  have HII := Lib.hid hit
  have HFS := Lib.hid hfs
  have k3 := (Blk.new w 27 #[.slice Af first.length cf]).alloc (.cells #[.slice none 0 0] 41)
  have k4 := Blk.new' (w.alloc (.cells #[.slice Af first.length cf] 27)) 41 #[.slice none 0 0] (g := w.heap.size + 1) (by simp)
  have hb0 : Below w.heap.size w ((w.alloc (.cells #[.slice Af first.length cf] 27)).alloc (.cells #[.slice none 0 0] 41)) := by (repeat' (first | exact Below.refl _ _ | assumption | refine Below.setCell ?_ (by first | omega | exact Below.size (by assumption) | (simp; done) | (simp; omega)) _ | refine Below.alloc ?_ (by first | omega | exact Below.size (by assumption) | (simp; done) | (simp; omega)) _ | refine Below.drew ?_ | refine below_drewN ?_ _))
  clear h hit hc hfs
  go_enter Tryd.func21, Tryd.ntmps21
  go_upto_region 2 with (fail)
  obtain ⟨g4, hg4⟩ : ∃ g, g = w.heap.size + 1 := ⟨_, rfl⟩
  obtain ⟨g3, hg3⟩ : ∃ g, g = w.heap.size := ⟨_, rfl⟩
  obtain ⟨W, hW⟩ : ∃ W', W' = (w.alloc (.cells #[.slice Af first.length cf] 27)).alloc (.cells #[.slice none 0 0] 41) := ⟨_, rfl⟩
  rw [← hW] at k3 k4 hb0 ⊢
  rw [← hg4] at k4 ⊢
  rw [show Blk W w.heap.size = Blk W g3 by rw [hg3]] at k3
  rw [← hg3]
  have h4w : w.heap.size ≤ g4 := by omega
  clear hW hg3 hg4
  have C0 : CX w W g3 g4 Af cf first (.slice none 0 0) (.slice none 0 0) [] [] := ⟨k3, k4, World.ownsRow_nil _ _ _ _, World.ownsRow_nil _ _ _ _, hb0, h4w⟩
  clear k3 k4 hb0
  go_wp2_with fail
  go_loopw [5, 18] (fun v5 i wr => ∃ (k : Nat) (qs : List PtM) (F : List (Nat × Nat)) (z : Value), k ≤ l.length ∧ i = .int .i64 k ∧ qs.length ≤ 8 * k ∧ Hid (F.length = qs.length) ∧ Hid (qs.map PtM.er = chosenP ((l.map ItM.er).take k) first) ∧ Hid (∀ y ∈ F, y.1 < k) ∧
    Hid (∀ q ∈ qs, q.At w w.heap.size ∧ ckPart q.er = 0) ∧ CX w wr g3 g4 Af cf first z v5 qs F) (fun _ i _ => l.length - (intOf i).toNat)
  case atStart => exact ⟨0, [], [], _, Nat.zero_le _, rfl, Nat.zero_le _, Lib.hid rfl, Lib.hid rfl, Lib.hid (by simp), Lib.hid (by simp), C0⟩
  case round =>
    clear C0
    obtain ⟨k, qs, F, z, hk, rfl, hq8, hFq, hch, hFk, hQ, C⟩ := hrel
    obtain ⟨Az, cz, rfl, _, _⟩ := own_form C.oz
    obtain ⟨Ay, cy, rfl, _, _⟩ := own_form C.oF
    by_cases hlt : k < l.length
    · obtain ⟨x, hx⟩ : ∃ x, l[k]? = some x := ⟨_, List.getElem?_eq_getElem hlt⟩
      have hxe : (l.map ItM.er)[k]? = some x.er := by rw [List.getElem?_map, hx]; rfl
      have hxm := List.mem_of_getElem? hx
      obtain ⟨b, off, hA, bl, c0, c1⟩ := it_get (hrow.below C.be) hx
      obtain ⟨hp8, hp1, hpok⟩ := ckItem_zero (HII.out x.er (List.mem_map_of_mem hxm))
      have hp8' : x.ps.length ≤ 8 := by simpa [ItM.er] using hp8
      have HP1 : Hid (x.arch = false → x.ps.length = 1) := fun ha => by simpa [ItM.er] using hp1 ha
      have HPO : Hid (∀ p ∈ x.ps, ckPart p.er = 0) := fun p hp => hpok p.er (by simp only [ItM.er]; exact List.mem_map_of_mem hp)
      have HG := Lib.hid (HIT.out x hxm)
      have HXE := Lib.hid hxe
      rw [hA]
      clear hx hxm hxe hp8 hp1 hpok hA
      go_upto_region 5 with (fail)
      have kX := Blk.new wr 85 #[.bool x.arch, .slice x.pa x.ps.length x.pc]
      have hbx : Below wr.heap.size wr (wr.alloc (.cells #[.bool x.arch, .slice x.pa x.ps.length x.pc] 85)) := by (repeat' (first | exact Below.refl _ _ | assumption | refine Below.setCell ?_ (by first | omega | exact Below.size (by assumption) | (simp; done) | (simp; omega)) _ | refine Below.alloc ?_ (by first | omega | exact Below.size (by assumption) | (simp; done) | (simp; omega)) _ | refine Below.drew ?_ | refine below_drewN ?_ _))
      replace C := C.all hbx
      obtain ⟨gX, hgX⟩ : ∃ g, g = wr.heap.size := ⟨_, rfl⟩
      obtain ⟨W1, hW1⟩ : ∃ W, W = wr.alloc (.cells #[.bool x.arch, .slice x.pa x.ps.length x.pc] 85) := ⟨_, rfl⟩
      rw [← hgX] at kX ⊢
      rw [← hW1] at kX C ⊢
      clear hW1 hgX hbx c0 c1 bl
      have hxg := HG.out.keep C.be (Nat.le_refl _)
      have x0 := kX.cell 0
      have x1 := kX.cell 1
      by_cases har : x.arch = false
      · have h1 := HP1.out har
        obtain ⟨p, hp⟩ : ∃ p, x.ps[0]? = some p := ⟨_, List.getElem?_eq_getElem (by omega)⟩
        have hpm := List.mem_of_getElem? hp
        obtain ⟨b1, o1, hxa, bl1, d0, d1⟩ := pt_get hxg.ps.row hp
        simp only [Nat.zero_mul, Nat.add_zero] at d0 d1
        have hpA := HG.out.ps.each p hpm
        have hok := HPO.out p hpm
        have HIS : Hid (itemStep first (qs.map PtM.er) x.er = qs.map PtM.er ++ [p.er]) := by
          show _ = _
          unfold itemStep
          rw [show x.er.arch = false from har, if_neg (by simp)]
          have e : x.er.ps = [p.er] := by
            obtain ⟨p', hp'⟩ := List.length_eq_one_iff.1 h1
            rw [hp'] at hp
            simp at hp
            simp [ItM.er, hp', hp]
          rw [e]; rfl
        rw [har] at x0
        rw [h1, hxa] at x1
        have kB : Blk W1 gX 85 #[.bool false, .slice (some ⟨b1, o1, none⟩) 1 x.pc] := by
          have := kX
          rw [har, h1, hxa] at this
          exact this
        have HD : Hid (∀ w', Below w.heap.size w w' → w'.cell? ⟨b1, o1, none⟩ = some (.slice p.fa p.frs.length p.fc) ∧ w'.cell? ⟨b1, o1 + 1, none⟩ = some (.slice p.da p.dfs.length p.dc)) := fun w' hb' => by
          obtain ⟨b2, o2, hx2, _, e0, e1⟩ := pt_get (HG.out.keep hb' (Nat.le_refl _)).ps.row hp
          rw [hxa] at hx2
          injection hx2 with hx2
          injection hx2 with e2 e3
          subst e2 e3
          simp only [Nat.zero_mul, Nat.add_zero] at e0 e1
          exact ⟨e0, e1⟩
        have hqv : qs.length ≤ 96 := by omega
        have hFv : F.length ≤ 96 := by rw [hFq.out]; omega
        have HPA := Lib.hid (And.intro hpA hok)
        clear hxa har hpm hp d0 d1 hxg bl1 hpA hok kX
        go_upto_region 6 with (fail)
        go_cut [5] (fun v5' wx => ∃ z', CX w wx g3 g4 Af cf first z' v5' (qs ++ [p]) (F ++ [(k, 0)]))
        case first =>
          refine wp_region_any (by kernel_rfl) ?_
          change wpAny _ _ _ _ _ _ _ (World.drew W1)
          have k3 := C.k3.drew
          have k4 := C.k4.drew
          have oz := C.oz.drew
          have oF := C.oF.drew
          have be := C.be.drew
          have h4 := C.h4
          have kB := kB.drew
          have hzB := own_blk_ne oz kB (by decide)
          clear C x0 x1
          obtain ⟨i0, hi, hiz, his, hib⟩ := info_parts Tryd.infoParts
          obtain ⟨i1, hj, hjz, hjs, hjb⟩ := info_parts Tryd.infoPair
          obtain ⟨wv, hwv⟩ : ∃ x, x = W1.drew := ⟨_, rfl⟩
          rw [← hwv] at k3 k4 oz oF be kB ⊢
          clear hwv
          (refine wpAny_take (i := 7) (oi := { dst := some 33, op := Op.move (Operand.tmp 5), type := 47, pos := "parts.go:463", after := #[], guard := none }) (v := ?_) rfl (by kernel_rfl) (by kernel_rfl) (by kernel_rfl) (fun _ _ _ h => h) (Or.inl ⟨by rfl, ?_⟩) ?_; rotate_left; (focus (intro w; go_simp; (try with_reducible rfl))); (try simp only [Act.put, List.setIfInBounds_toArray, List.set_cons_zero, List.set_cons_succ]))
          (refine wpAny_take (i := 8) (oi := { dst := some 34, op := Op.move (Operand.tmp 7), type := 3, pos := "parts.go:463", after := #[], guard := none }) (v := ?_) rfl (by kernel_rfl) (by kernel_rfl) (by kernel_rfl) (fun _ _ _ h => h) (Or.inl ⟨by rfl, ?_⟩) ?_; rotate_left; (focus (intro w; go_simp; (try with_reducible rfl))); (try simp only [Act.put, List.setIfInBounds_toArray, List.set_cons_zero, List.set_cons_succ]))
          (refine wpAny_take (i := 9) (oi := { dst := some 35, op := Op.build 97 #[(0, Operand.tmp 34), (1, Operand.const (Value.int IntKind.i64 0))], type := 97, pos := "parts.go:463", after := #[{ on := 8, ground := Ground.data }], guard := none }) (v := ?_) rfl (by kernel_rfl) (by kernel_rfl) (by kernel_rfl) (fun _ _ _ h => h) (Or.inl ⟨by rfl, ?_⟩) ?_; rotate_left; (focus (intro w; go_simp; (try with_reducible rfl))); (try simp only [Act.put, List.setIfInBounds_toArray, List.set_cons_zero, List.set_cons_succ]))
          have HSS : Hid (∀ w', Blk w' g4 41 #[.slice Az qs.length cz] → Blk w' gX 85 #[.bool false, .slice (some ⟨b1, o1, none⟩) 1 x.pc] → Below w.heap.size w w' →
            w'.cell? ⟨g4, 0, none⟩ = some (.slice Az qs.length cz) ∧ w'.cell? ⟨gX, 1, none⟩ = some (.slice (some ⟨b1, o1, none⟩) 1 x.pc) ∧ w'.cell? ⟨b1, o1, none⟩ = some (.slice p.fa p.frs.length p.fc) ∧ w'.cell? ⟨b1, o1 + 1, none⟩ = some (.slice p.da p.dfs.length p.dc)) :=
            fun w' a b c => ⟨a.cell 0, b.cell 1, HD.out w' c⟩
          have hHeld := HSS.out wv k4 kB be
          refine wpAny_of_late (S := fun w' => w'.cell? ⟨g4, 0, none⟩ = some (.slice Az qs.length cz) ∧ w'.cell? ⟨gX, 1, none⟩ = some (.slice (some ⟨b1, o1, none⟩) 1 x.pc) ∧ w'.cell? ⟨b1, o1, none⟩ = some (.slice p.fa p.frs.length p.fc) ∧ w'.cell? ⟨b1, o1 + 1, none⟩ = some (.slice p.da p.dfs.length p.dc)) (late := [12, 13]) _ _ _ _ ?_
          (refine wpAnyL_take (i := 0) (oi := { dst := some 26, op := Op.load 41 (Operand.tmp 4), type := 41, pos := "parts.go:463", after := #[], guard := none }) (v := ?_) rfl (by kernel_rfl) (by kernel_rfl) (by kernel_rfl) (fun _ _ _ h => h) (Or.inl ⟨by rfl, ?_⟩) (by assumption) (by kernel_rfl) (by rfl) ?_; rotate_left; (focus (intro w hSw; (try dsimp only at hSw); go_simp; (try with_reducible rfl))); (try simp only [Act.put, List.setIfInBounds_toArray, List.set_cons_zero, List.set_cons_succ]))
          (refine wpAnyL_take (i := 1) (oi := { dst := some 27, op := Op.fieldAddr 85 (Operand.tmp 8) 1, type := 0, pos := "parts.go:463", after := #[], guard := none }) (v := ?_) rfl (by kernel_rfl) (by kernel_rfl) (by kernel_rfl) (fun _ _ _ h => h) (Or.inl ⟨by rfl, ?_⟩) (by assumption) (by kernel_rfl) (by rfl) ?_; rotate_left; (focus (intro w hSw; (try dsimp only at hSw); go_simp; (try with_reducible rfl))); (try simp only [Act.put, List.setIfInBounds_toArray, List.set_cons_zero, List.set_cons_succ]))
          (refine wpAnyL_take (i := 2) (oi := { dst := some 28, op := Op.load 41 (Operand.tmp 27), type := 41, pos := "parts.go:463", after := #[{ on := 1, ground := Ground.data }], guard := none }) (v := ?_) rfl (by kernel_rfl) (by kernel_rfl) (by kernel_rfl) (fun _ _ _ h => h) (Or.inl ⟨by rfl, ?_⟩) (by assumption) (by kernel_rfl) (by rfl) ?_; rotate_left; (focus (intro w hSw; (try dsimp only at hSw); go_simp; (try with_reducible rfl))); (try simp only [Act.put, List.setIfInBounds_toArray, List.set_cons_zero, List.set_cons_succ]))
          (refine wpAnyL_take (i := 3) (oi := { dst := some 29, op := Op.indexAddr 41 (Operand.tmp 28) (Operand.const (Value.int IntKind.i64 0)), type := 0, pos := "parts.go:463", after := #[{ on := 2, ground := Ground.data }], guard := none }) (v := ?_) rfl (by kernel_rfl) (by kernel_rfl) (by kernel_rfl) (fun _ _ _ h => h) (Or.inl ⟨by rfl, ?_⟩) (by assumption) (by kernel_rfl) (by rfl) ?_; rotate_left; (focus (intro w hSw; (try dsimp only at hSw); go_simp; (try with_reducible rfl))); (try simp only [Act.put, List.setIfInBounds_toArray, List.set_cons_zero, List.set_cons_succ]))
          (refine wpAnyL_take (i := 4) (oi := { dst := some 30, op := Op.load 25 (Operand.tmp 29), type := 25, pos := "parts.go:463", after := #[{ on := 3, ground := Ground.data }], guard := none }) (v := ?_) rfl (by kernel_rfl) (by kernel_rfl) (by kernel_rfl) (fun _ _ _ h => h) (Or.inl ⟨by rfl, ?_⟩) (by assumption) (by kernel_rfl) (by rfl) ?_; rotate_left; (focus (intro w hSw; (try dsimp only at hSw); go_simp; (try with_reducible rfl))); (try simp only [Act.put, List.setIfInBounds_toArray, List.set_cons_zero, List.set_cons_succ]))
          (refine wpAnyL_ready (rs := [5, 10]) (by kernel_rfl) (by simp) ?_; refine List.forall_mem_cons.2 ⟨?_, List.forall_mem_cons.2 ⟨?_, fun _ h => by cases h⟩⟩)
          · (refine stepL (o := { dst := some 31, op := Op.buildSlice 41 1 #[(0, Operand.tmp 30)], type := 41, pos := "parts.go:463", after := #[{ on := 4, ground := Ground.data }], guard := none }) rfl (fun K hK => ?_); go_simp; refine hK.out _ _ (HSS.out _ (k4.alloc (.cells #[.slice p.fa p.frs.length p.fc, .slice p.da p.dfs.length p.dc] 25)) (kB.alloc (.cells #[.slice p.fa p.frs.length p.fc, .slice p.da p.dfs.length p.dc] 25)) (be.alloc be.size (.cells #[.slice p.fa p.frs.length p.fc, .slice p.da p.dfs.length p.dc] 25))) (fun hHeld => ?_); (clear hK K; (try simp only [Act.put, List.setIfInBounds_toArray, List.set_cons_zero, List.set_cons_succ])); have k7 := Blk.new wv 25 #[.slice p.fa p.frs.length p.fc, .slice p.da p.dfs.length p.dc]; (try have k14 := k14.alloc (.cells #[.slice p.fa p.frs.length p.fc, .slice p.da p.dfs.length p.dc] 25)); have k3 := k3.alloc (.cells #[.slice p.fa p.frs.length p.fc, .slice p.da p.dfs.length p.dc] 25); have k4 := k4.alloc (.cells #[.slice p.fa p.frs.length p.fc, .slice p.da p.dfs.length p.dc] 25); have kB := kB.alloc (.cells #[.slice p.fa p.frs.length p.fc, .slice p.da p.dfs.length p.dc] 25); (try have kY := kY.alloc (.cells #[.slice p.fa p.frs.length p.fc, .slice p.da p.dfs.length p.dc] 25)); have oz := oz.alloc (.cells #[.slice p.fa p.frs.length p.fc, .slice p.da p.dfs.length p.dc] 25); have oF := oF.alloc (.cells #[.slice p.fa p.frs.length p.fc, .slice p.da p.dfs.length p.dc] 25); have be := be.alloc be.size (.cells #[.slice p.fa p.frs.length p.fc, .slice p.da p.dfs.length p.dc] 25); obtain ⟨gs, hgs⟩ : ∃ g, g = wv.heap.size := ⟨_, rfl⟩; rw [← hgs] at k7 ⊢; clear hgs; obtain ⟨wv, hwv⟩ : ∃ x, x = wv.alloc (.cells #[.slice p.fa p.frs.length p.fc, .slice p.da p.dfs.length p.dc] 25) := ⟨_, rfl⟩; rw [← hwv] at k7 oz oF k3 k4 kB be hHeld ⊢; (try rw [← hwv] at k14); (try rw [← hwv] at kY); clear hwv)
            (refine wpAnyL_ready (rs := [6, 10]) (by kernel_rfl) (by simp) ?_; refine List.forall_mem_cons.2 ⟨?_, List.forall_mem_cons.2 ⟨?_, fun _ h => by cases h⟩⟩)
            · (refine stepL (o := { dst := some 32, op := Op.call { callee := Callee.builtin Builtin.append, args := #[Operand.tmp 26, Operand.tmp 31], argTypes := #[41, 41] }, type := 41, pos := "parts.go:463", after := #[{ on := 0, ground := Ground.data }, { on := 5, ground := Ground.data }], guard := none }) rfl (fun K hK => ?_); refine step_append_any _ rfl (.tmp 26) (.tmp 31) 41 rfl w.heap.size 25 i0 _ 2 48 Tryd.underlying41 hi hiz his hib rfl (by decide) _ _ _ rfl oz _ (some ⟨gs, 0, none⟩) 1 1 [.slice p.fa p.frs.length p.fc, .slice p.da p.dfs.length p.dc] rfl (by simpa using k7.reads (size := 2) (n := 1) rfl) (by intro u hu; simp at hu; rcases hu with rfl | rfl <;> rfl) ?c2 ?c3 ?c4 ?_; (case c2 => unfold maxLen; omega); (case c3 => omega); (case c4 => exact be.size); intro z' wn ho hg _; have k4n := k4.grown hg (own_blk_ne oz k4 (by decide)).symm; have kBn := kB.grown hg hzB.symm; have ben := be.grown hg be.size (fun j hj => (oz.lt j hj).1); refine hK.out _ _ (HSS.out _ k4n kBn ben) (fun hHeld => ?_); (clear hK K; (try simp only [Act.put, List.setIfInBounds_toArray, List.set_cons_zero, List.set_cons_succ])); clear k7; (try have k14 := k14.grown hg (own_blk_ne oz k14 (by decide)).symm); have oF := own_kept oF hg (own_row_ne oF oz (by decide)); have k3 := k3.grown hg (own_blk_ne oz k3 (by decide)).symm; (try have kY := kY.grown hg (own_blk_ne oz kY (by decide)).symm); have oz' : wn.ownsRow w.heap.size 25 2 z' ((qs).length + 1) (ptsV (qs) ++ [.slice p.fa p.frs.length p.fc, .slice p.da p.dfs.length p.dc]) := ho; clear oz ho hg k4 kB be hzB; have k4 := k4n; have kB := kBn; have be := ben; clear k4n kBn ben; obtain ⟨B2, d2, rfl, _, _⟩ := own_form oz'; obtain ⟨wv, hwv⟩ : ∃ x, x = wn := ⟨_, rfl⟩; rw [← hwv] at oz' oF k3 k4 kB be hHeld ⊢; (try rw [← hwv] at k14); (try rw [← hwv] at kY); clear hwv)
              (refine wpAnyL_ready (rs := [10]) (by kernel_rfl) (by simp) ?_; refine List.forall_mem_cons.2 ⟨?_, fun _ h => by cases h⟩)
              (refine stepL (o := { dst := some 36, op := Op.buildSlice 47 1 #[(0, Operand.tmp 35)], type := 47, pos := "parts.go:463", after := #[{ on := 9, ground := Ground.data }], guard := none }) rfl (fun K hK => ?_); go_simp; refine hK.out _ _ (HSS.out _ (k4.alloc (.cells #[.int .i64 (k : Nat), .int .i64 0] 97)) (kB.alloc (.cells #[.int .i64 (k : Nat), .int .i64 0] 97)) (be.alloc be.size (.cells #[.int .i64 (k : Nat), .int .i64 0] 97))) (fun hHeld => ?_); (clear hK K; (try simp only [Act.put, List.setIfInBounds_toArray, List.set_cons_zero, List.set_cons_succ])); have k14 := Blk.new wv 97 #[.int .i64 (k : Nat), .int .i64 0]; (try have k7 := k7.alloc (.cells #[.int .i64 (k : Nat), .int .i64 0] 97)); have k3 := k3.alloc (.cells #[.int .i64 (k : Nat), .int .i64 0] 97); have k4 := k4.alloc (.cells #[.int .i64 (k : Nat), .int .i64 0] 97); have kB := kB.alloc (.cells #[.int .i64 (k : Nat), .int .i64 0] 97); (try have kY := kY.alloc (.cells #[.int .i64 (k : Nat), .int .i64 0] 97)); (try have oz := oz.alloc (.cells #[.int .i64 (k : Nat), .int .i64 0] 97)); (try have oz' := oz'.alloc (.cells #[.int .i64 (k : Nat), .int .i64 0] 97)); have oF := oF.alloc (.cells #[.int .i64 (k : Nat), .int .i64 0] 97); have be := be.alloc be.size (.cells #[.int .i64 (k : Nat), .int .i64 0] 97); obtain ⟨gi, hgi⟩ : ∃ g, g = wv.heap.size := ⟨_, rfl⟩; rw [← hgi] at k14 ⊢; clear hgi; obtain ⟨wv, hwv⟩ : ∃ x, x = wv.alloc (.cells #[.int .i64 (k : Nat), .int .i64 0] 97) := ⟨_, rfl⟩; rw [← hwv] at k14 oF k3 k4 kB be hHeld ⊢; (try rw [← hwv] at oz); (try rw [← hwv] at oz'); (try rw [← hwv] at k7); (try rw [← hwv] at kY); clear hwv)
              (refine wpAnyL_ready (rs := [11]) (by kernel_rfl) (by simp) ?_; refine List.forall_mem_cons.2 ⟨?_, fun _ h => by cases h⟩)
              (refine stepL (o := { dst := some 37, op := Op.call { callee := Callee.builtin Builtin.append, args := #[Operand.tmp 33, Operand.tmp 36], argTypes := #[47, 47] }, type := 47, pos := "parts.go:463", after := #[{ on := 7, ground := Ground.data }, { on := 10, ground := Ground.data }, { on := 6, ground := Ground.chain }], guard := none }) rfl (fun K hK => ?_); refine step_append_any _ rfl (.tmp 33) (.tmp 36) 47 rfl w.heap.size 97 i1 _ 2 16 Tryd.underlying47 hj hjz hjs hjb rfl (by decide) _ _ _ rfl oF _ (some ⟨gi, 0, none⟩) 1 1 [.int .i64 (k : Nat), .int .i64 0] rfl (by simpa using k14.reads (size := 2) (n := 1) rfl) (by intro u hu; simp at hu; rcases hu with rfl | rfl <;> rfl) ?c2 ?c3 ?c4 ?_; (case c2 => unfold maxLen; omega); (case c3 => omega); (case c4 => exact be.size); intro v5' wn ho hg _; have k4n := k4.grown hg (own_blk_ne oF k4 (by decide)).symm; have kBn := kB.grown hg (own_blk_ne oF kB (by decide)).symm; have ben := be.grown hg be.size (fun j hj => (oF.lt j hj).1); refine hK.out _ _ (HSS.out _ k4n kBn ben) (fun hHeld => ?_); (clear hK K; (try simp only [Act.put, List.setIfInBounds_toArray, List.set_cons_zero, List.set_cons_succ])); clear k14; have oz' := own_kept oz' hg (own_row_ne oz' oF (by decide)); have k3 := k3.grown hg (own_blk_ne oF k3 (by decide)).symm; (try have kY := kY.grown hg (own_blk_ne oF kY (by decide)).symm); have oF' : wn.ownsRow w.heap.size 97 2 v5' ((F).length + 1) (prV (F) ++ [.int .i64 (k : Nat), .int .i64 0]) := ho; clear oF ho hg k4 kB be; have k4 := k4n; have kB := kBn; have be := ben; clear k4n kBn ben; obtain ⟨B3, d3, rfl, _, _⟩ := own_form oF'; obtain ⟨wv, hwv⟩ : ∃ x, x = wn := ⟨_, rfl⟩; rw [← hwv] at oz' oF' k3 k4 kB be hHeld ⊢; (try rw [← hwv] at kY); clear hwv)
              (have s0 := k4.cell 0; have u0 := k4.frozen 0; (refine wpAnyL_ready (rs := [12]) (by kernel_rfl) (by simp) ?_; refine List.forall_mem_cons.2 ⟨stepLate (o := { dst := none, op := Op.store 41 (Operand.tmp 4) (Operand.tmp 32), type := 0, pos := "parts.go:463", after := #[{ on := 6, ground := Ground.data }, { on := 11, ground := Ground.chain }, { on := 0, ground := Ground.phase }, { on := 1, ground := Ground.phase }, { on := 2, ground := Ground.phase }, { on := 3, ground := Ground.phase }, { on := 4, ground := Ground.phase }, { on := 5, ground := Ground.phase }, { on := 6, ground := Ground.phase }, { on := 7, ground := Ground.textOnly Departure.lateStores }, { on := 8, ground := Ground.textOnly Departure.lateStores }, { on := 9, ground := Ground.textOnly Departure.inlinedCapture }, { on := 10, ground := Ground.textOnly Departure.inlinedCapture }, { on := 11, ground := Ground.textOnly Departure.lateStoresUnsure }], guard := none }) rfl (by rfl) (fun K hK => ?_), fun _ h => by cases h⟩; go_simp; refine hK.out _ _ ?_; (clear hK K; (try simp only [Act.put, List.setIfInBounds_toArray, List.set_cons_zero, List.set_cons_succ]))); (refine wpAnyL_ready (rs := [13]) (by kernel_rfl) (by simp) ?_; refine List.forall_mem_cons.2 ⟨stepLate (o := { dst := some 5, op := Op.assign (Operand.tmp 37), type := 47, pos := "parts.go:463", after := #[{ on := 11, ground := Ground.data }, { on := 12, ground := Ground.chain }, { on := 0, ground := Ground.phase }, { on := 1, ground := Ground.phase }, { on := 2, ground := Ground.phase }, { on := 3, ground := Ground.phase }, { on := 4, ground := Ground.phase }, { on := 5, ground := Ground.phase }, { on := 6, ground := Ground.phase }, { on := 7, ground := Ground.phase }, { on := 8, ground := Ground.phase }, { on := 9, ground := Ground.phase }, { on := 10, ground := Ground.phase }, { on := 11, ground := Ground.phase }, { on := 12, ground := Ground.phase }], guard := none }) rfl (by rfl) (fun K hK => ?_), fun _ h => by cases h⟩; go_simp; refine hK.out _ _ ?_; (clear hK K; (try simp only [Act.put, List.setIfInBounds_toArray, List.set_cons_zero, List.set_cons_succ]))); refine wpAnyL_done (by kernel_rfl) ?_ _; go_wp2; go_meet; exact ⟨_, CX.pushed (y := (k, 0)) k3 k4 oz' oF' be h4⟩)
            · (refine stepL (o := { dst := some 36, op := Op.buildSlice 47 1 #[(0, Operand.tmp 35)], type := 47, pos := "parts.go:463", after := #[{ on := 9, ground := Ground.data }], guard := none }) rfl (fun K hK => ?_); go_simp; refine hK.out _ _ (HSS.out _ (k4.alloc (.cells #[.int .i64 (k : Nat), .int .i64 0] 97)) (kB.alloc (.cells #[.int .i64 (k : Nat), .int .i64 0] 97)) (be.alloc be.size (.cells #[.int .i64 (k : Nat), .int .i64 0] 97))) (fun hHeld => ?_); (clear hK K; (try simp only [Act.put, List.setIfInBounds_toArray, List.set_cons_zero, List.set_cons_succ])); have k14 := Blk.new wv 97 #[.int .i64 (k : Nat), .int .i64 0]; (try have k7 := k7.alloc (.cells #[.int .i64 (k : Nat), .int .i64 0] 97)); have k3 := k3.alloc (.cells #[.int .i64 (k : Nat), .int .i64 0] 97); have k4 := k4.alloc (.cells #[.int .i64 (k : Nat), .int .i64 0] 97); have kB := kB.alloc (.cells #[.int .i64 (k : Nat), .int .i64 0] 97); (try have kY := kY.alloc (.cells #[.int .i64 (k : Nat), .int .i64 0] 97)); (try have oz := oz.alloc (.cells #[.int .i64 (k : Nat), .int .i64 0] 97)); (try have oz' := oz'.alloc (.cells #[.int .i64 (k : Nat), .int .i64 0] 97)); have oF := oF.alloc (.cells #[.int .i64 (k : Nat), .int .i64 0] 97); have be := be.alloc be.size (.cells #[.int .i64 (k : Nat), .int .i64 0] 97); obtain ⟨gi, hgi⟩ : ∃ g, g = wv.heap.size := ⟨_, rfl⟩; rw [← hgi] at k14 ⊢; clear hgi; obtain ⟨wv, hwv⟩ : ∃ x, x = wv.alloc (.cells #[.int .i64 (k : Nat), .int .i64 0] 97) := ⟨_, rfl⟩; rw [← hwv] at k14 oF k3 k4 kB be hHeld ⊢; (try rw [← hwv] at oz); (try rw [← hwv] at oz'); (try rw [← hwv] at k7); (try rw [← hwv] at kY); clear hwv)
              (refine wpAnyL_ready (rs := [6]) (by kernel_rfl) (by simp) ?_; refine List.forall_mem_cons.2 ⟨?_, fun _ h => by cases h⟩)
              (refine stepL (o := { dst := some 32, op := Op.call { callee := Callee.builtin Builtin.append, args := #[Operand.tmp 26, Operand.tmp 31], argTypes := #[41, 41] }, type := 41, pos := "parts.go:463", after := #[{ on := 0, ground := Ground.data }, { on := 5, ground := Ground.data }], guard := none }) rfl (fun K hK => ?_); refine step_append_any _ rfl (.tmp 26) (.tmp 31) 41 rfl w.heap.size 25 i0 _ 2 48 Tryd.underlying41 hi hiz his hib rfl (by decide) _ _ _ rfl oz _ (some ⟨gs, 0, none⟩) 1 1 [.slice p.fa p.frs.length p.fc, .slice p.da p.dfs.length p.dc] rfl (by simpa using k7.reads (size := 2) (n := 1) rfl) (by intro u hu; simp at hu; rcases hu with rfl | rfl <;> rfl) ?c2 ?c3 ?c4 ?_; (case c2 => unfold maxLen; omega); (case c3 => omega); (case c4 => exact be.size); intro z' wn ho hg _; have k4n := k4.grown hg (own_blk_ne oz k4 (by decide)).symm; have kBn := kB.grown hg hzB.symm; have ben := be.grown hg be.size (fun j hj => (oz.lt j hj).1); refine hK.out _ _ (HSS.out _ k4n kBn ben) (fun hHeld => ?_); (clear hK K; (try simp only [Act.put, List.setIfInBounds_toArray, List.set_cons_zero, List.set_cons_succ])); clear k7; (try have k14 := k14.grown hg (own_blk_ne oz k14 (by decide)).symm); have oF := own_kept oF hg (own_row_ne oF oz (by decide)); have k3 := k3.grown hg (own_blk_ne oz k3 (by decide)).symm; (try have kY := kY.grown hg (own_blk_ne oz kY (by decide)).symm); have oz' : wn.ownsRow w.heap.size 25 2 z' ((qs).length + 1) (ptsV (qs) ++ [.slice p.fa p.frs.length p.fc, .slice p.da p.dfs.length p.dc]) := ho; clear oz ho hg k4 kB be hzB; have k4 := k4n; have kB := kBn; have be := ben; clear k4n kBn ben; obtain ⟨B2, d2, rfl, _, _⟩ := own_form oz'; obtain ⟨wv, hwv⟩ : ∃ x, x = wn := ⟨_, rfl⟩; rw [← hwv] at oz' oF k3 k4 kB be hHeld ⊢; (try rw [← hwv] at k14); (try rw [← hwv] at kY); clear hwv)
              (refine wpAnyL_ready (rs := [11]) (by kernel_rfl) (by simp) ?_; refine List.forall_mem_cons.2 ⟨?_, fun _ h => by cases h⟩)
              (refine stepL (o := { dst := some 37, op := Op.call { callee := Callee.builtin Builtin.append, args := #[Operand.tmp 33, Operand.tmp 36], argTypes := #[47, 47] }, type := 47, pos := "parts.go:463", after := #[{ on := 7, ground := Ground.data }, { on := 10, ground := Ground.data }, { on := 6, ground := Ground.chain }], guard := none }) rfl (fun K hK => ?_); refine step_append_any _ rfl (.tmp 33) (.tmp 36) 47 rfl w.heap.size 97 i1 _ 2 16 Tryd.underlying47 hj hjz hjs hjb rfl (by decide) _ _ _ rfl oF _ (some ⟨gi, 0, none⟩) 1 1 [.int .i64 (k : Nat), .int .i64 0] rfl (by simpa using k14.reads (size := 2) (n := 1) rfl) (by intro u hu; simp at hu; rcases hu with rfl | rfl <;> rfl) ?c2 ?c3 ?c4 ?_; (case c2 => unfold maxLen; omega); (case c3 => omega); (case c4 => exact be.size); intro v5' wn ho hg _; have k4n := k4.grown hg (own_blk_ne oF k4 (by decide)).symm; have kBn := kB.grown hg (own_blk_ne oF kB (by decide)).symm; have ben := be.grown hg be.size (fun j hj => (oF.lt j hj).1); refine hK.out _ _ (HSS.out _ k4n kBn ben) (fun hHeld => ?_); (clear hK K; (try simp only [Act.put, List.setIfInBounds_toArray, List.set_cons_zero, List.set_cons_succ])); clear k14; have oz' := own_kept oz' hg (own_row_ne oz' oF (by decide)); have k3 := k3.grown hg (own_blk_ne oF k3 (by decide)).symm; (try have kY := kY.grown hg (own_blk_ne oF kY (by decide)).symm); have oF' : wn.ownsRow w.heap.size 97 2 v5' ((F).length + 1) (prV (F) ++ [.int .i64 (k : Nat), .int .i64 0]) := ho; clear oF ho hg k4 kB be; have k4 := k4n; have kB := kBn; have be := ben; clear k4n kBn ben; obtain ⟨B3, d3, rfl, _, _⟩ := own_form oF'; obtain ⟨wv, hwv⟩ : ∃ x, x = wn := ⟨_, rfl⟩; rw [← hwv] at oz' oF' k3 k4 kB be hHeld ⊢; (try rw [← hwv] at kY); clear hwv)
              (have s0 := k4.cell 0; have u0 := k4.frozen 0; (refine wpAnyL_ready (rs := [12]) (by kernel_rfl) (by simp) ?_; refine List.forall_mem_cons.2 ⟨stepLate (o := { dst := none, op := Op.store 41 (Operand.tmp 4) (Operand.tmp 32), type := 0, pos := "parts.go:463", after := #[{ on := 6, ground := Ground.data }, { on := 11, ground := Ground.chain }, { on := 0, ground := Ground.phase }, { on := 1, ground := Ground.phase }, { on := 2, ground := Ground.phase }, { on := 3, ground := Ground.phase }, { on := 4, ground := Ground.phase }, { on := 5, ground := Ground.phase }, { on := 6, ground := Ground.phase }, { on := 7, ground := Ground.textOnly Departure.lateStores }, { on := 8, ground := Ground.textOnly Departure.lateStores }, { on := 9, ground := Ground.textOnly Departure.inlinedCapture }, { on := 10, ground := Ground.textOnly Departure.inlinedCapture }, { on := 11, ground := Ground.textOnly Departure.lateStoresUnsure }], guard := none }) rfl (by rfl) (fun K hK => ?_), fun _ h => by cases h⟩; go_simp; refine hK.out _ _ ?_; (clear hK K; (try simp only [Act.put, List.setIfInBounds_toArray, List.set_cons_zero, List.set_cons_succ]))); (refine wpAnyL_ready (rs := [13]) (by kernel_rfl) (by simp) ?_; refine List.forall_mem_cons.2 ⟨stepLate (o := { dst := some 5, op := Op.assign (Operand.tmp 37), type := 47, pos := "parts.go:463", after := #[{ on := 11, ground := Ground.data }, { on := 12, ground := Ground.chain }, { on := 0, ground := Ground.phase }, { on := 1, ground := Ground.phase }, { on := 2, ground := Ground.phase }, { on := 3, ground := Ground.phase }, { on := 4, ground := Ground.phase }, { on := 5, ground := Ground.phase }, { on := 6, ground := Ground.phase }, { on := 7, ground := Ground.phase }, { on := 8, ground := Ground.phase }, { on := 9, ground := Ground.phase }, { on := 10, ground := Ground.phase }, { on := 11, ground := Ground.phase }, { on := 12, ground := Ground.phase }], guard := none }) rfl (by rfl) (fun K hK => ?_), fun _ h => by cases h⟩; go_simp; refine hK.out _ _ ?_; (clear hK K; (try simp only [Act.put, List.setIfInBounds_toArray, List.set_cons_zero, List.set_cons_succ]))); refine wpAnyL_done (by kernel_rfl) ?_ _; go_wp2; go_meet; exact ⟨_, CX.pushed (y := (k, 0)) k3 k4 oz' oF' be h4⟩)
          · (refine stepL (o := { dst := some 36, op := Op.buildSlice 47 1 #[(0, Operand.tmp 35)], type := 47, pos := "parts.go:463", after := #[{ on := 9, ground := Ground.data }], guard := none }) rfl (fun K hK => ?_); go_simp; refine hK.out _ _ (HSS.out _ (k4.alloc (.cells #[.int .i64 (k : Nat), .int .i64 0] 97)) (kB.alloc (.cells #[.int .i64 (k : Nat), .int .i64 0] 97)) (be.alloc be.size (.cells #[.int .i64 (k : Nat), .int .i64 0] 97))) (fun hHeld => ?_); (clear hK K; (try simp only [Act.put, List.setIfInBounds_toArray, List.set_cons_zero, List.set_cons_succ])); have k14 := Blk.new wv 97 #[.int .i64 (k : Nat), .int .i64 0]; (try have k7 := k7.alloc (.cells #[.int .i64 (k : Nat), .int .i64 0] 97)); have k3 := k3.alloc (.cells #[.int .i64 (k : Nat), .int .i64 0] 97); have k4 := k4.alloc (.cells #[.int .i64 (k : Nat), .int .i64 0] 97); have kB := kB.alloc (.cells #[.int .i64 (k : Nat), .int .i64 0] 97); (try have kY := kY.alloc (.cells #[.int .i64 (k : Nat), .int .i64 0] 97)); (try have oz := oz.alloc (.cells #[.int .i64 (k : Nat), .int .i64 0] 97)); (try have oz' := oz'.alloc (.cells #[.int .i64 (k : Nat), .int .i64 0] 97)); have oF := oF.alloc (.cells #[.int .i64 (k : Nat), .int .i64 0] 97); have be := be.alloc be.size (.cells #[.int .i64 (k : Nat), .int .i64 0] 97); obtain ⟨gi, hgi⟩ : ∃ g, g = wv.heap.size := ⟨_, rfl⟩; rw [← hgi] at k14 ⊢; clear hgi; obtain ⟨wv, hwv⟩ : ∃ x, x = wv.alloc (.cells #[.int .i64 (k : Nat), .int .i64 0] 97) := ⟨_, rfl⟩; rw [← hwv] at k14 oF k3 k4 kB be hHeld ⊢; (try rw [← hwv] at oz); (try rw [← hwv] at oz'); (try rw [← hwv] at k7); (try rw [← hwv] at kY); clear hwv)
            (refine wpAnyL_ready (rs := [5]) (by kernel_rfl) (by simp) ?_; refine List.forall_mem_cons.2 ⟨?_, fun _ h => by cases h⟩)
            (refine stepL (o := { dst := some 31, op := Op.buildSlice 41 1 #[(0, Operand.tmp 30)], type := 41, pos := "parts.go:463", after := #[{ on := 4, ground := Ground.data }], guard := none }) rfl (fun K hK => ?_); go_simp; refine hK.out _ _ (HSS.out _ (k4.alloc (.cells #[.slice p.fa p.frs.length p.fc, .slice p.da p.dfs.length p.dc] 25)) (kB.alloc (.cells #[.slice p.fa p.frs.length p.fc, .slice p.da p.dfs.length p.dc] 25)) (be.alloc be.size (.cells #[.slice p.fa p.frs.length p.fc, .slice p.da p.dfs.length p.dc] 25))) (fun hHeld => ?_); (clear hK K; (try simp only [Act.put, List.setIfInBounds_toArray, List.set_cons_zero, List.set_cons_succ])); have k7 := Blk.new wv 25 #[.slice p.fa p.frs.length p.fc, .slice p.da p.dfs.length p.dc]; (try have k14 := k14.alloc (.cells #[.slice p.fa p.frs.length p.fc, .slice p.da p.dfs.length p.dc] 25)); have k3 := k3.alloc (.cells #[.slice p.fa p.frs.length p.fc, .slice p.da p.dfs.length p.dc] 25); have k4 := k4.alloc (.cells #[.slice p.fa p.frs.length p.fc, .slice p.da p.dfs.length p.dc] 25); have kB := kB.alloc (.cells #[.slice p.fa p.frs.length p.fc, .slice p.da p.dfs.length p.dc] 25); (try have kY := kY.alloc (.cells #[.slice p.fa p.frs.length p.fc, .slice p.da p.dfs.length p.dc] 25)); have oz := oz.alloc (.cells #[.slice p.fa p.frs.length p.fc, .slice p.da p.dfs.length p.dc] 25); have oF := oF.alloc (.cells #[.slice p.fa p.frs.length p.fc, .slice p.da p.dfs.length p.dc] 25); have be := be.alloc be.size (.cells #[.slice p.fa p.frs.length p.fc, .slice p.da p.dfs.length p.dc] 25); obtain ⟨gs, hgs⟩ : ∃ g, g = wv.heap.size := ⟨_, rfl⟩; rw [← hgs] at k7 ⊢; clear hgs; obtain ⟨wv, hwv⟩ : ∃ x, x = wv.alloc (.cells #[.slice p.fa p.frs.length p.fc, .slice p.da p.dfs.length p.dc] 25) := ⟨_, rfl⟩; rw [← hwv] at k7 oz oF k3 k4 kB be hHeld ⊢; (try rw [← hwv] at k14); (try rw [← hwv] at kY); clear hwv)
            (refine wpAnyL_ready (rs := [6]) (by kernel_rfl) (by simp) ?_; refine List.forall_mem_cons.2 ⟨?_, fun _ h => by cases h⟩)
            (refine stepL (o := { dst := some 32, op := Op.call { callee := Callee.builtin Builtin.append, args := #[Operand.tmp 26, Operand.tmp 31], argTypes := #[41, 41] }, type := 41, pos := "parts.go:463", after := #[{ on := 0, ground := Ground.data }, { on := 5, ground := Ground.data }], guard := none }) rfl (fun K hK => ?_); refine step_append_any _ rfl (.tmp 26) (.tmp 31) 41 rfl w.heap.size 25 i0 _ 2 48 Tryd.underlying41 hi hiz his hib rfl (by decide) _ _ _ rfl oz _ (some ⟨gs, 0, none⟩) 1 1 [.slice p.fa p.frs.length p.fc, .slice p.da p.dfs.length p.dc] rfl (by simpa using k7.reads (size := 2) (n := 1) rfl) (by intro u hu; simp at hu; rcases hu with rfl | rfl <;> rfl) ?c2 ?c3 ?c4 ?_; (case c2 => unfold maxLen; omega); (case c3 => omega); (case c4 => exact be.size); intro z' wn ho hg _; have k4n := k4.grown hg (own_blk_ne oz k4 (by decide)).symm; have kBn := kB.grown hg hzB.symm; have ben := be.grown hg be.size (fun j hj => (oz.lt j hj).1); refine hK.out _ _ (HSS.out _ k4n kBn ben) (fun hHeld => ?_); (clear hK K; (try simp only [Act.put, List.setIfInBounds_toArray, List.set_cons_zero, List.set_cons_succ])); clear k7; (try have k14 := k14.grown hg (own_blk_ne oz k14 (by decide)).symm); have oF := own_kept oF hg (own_row_ne oF oz (by decide)); have k3 := k3.grown hg (own_blk_ne oz k3 (by decide)).symm; (try have kY := kY.grown hg (own_blk_ne oz kY (by decide)).symm); have oz' : wn.ownsRow w.heap.size 25 2 z' ((qs).length + 1) (ptsV (qs) ++ [.slice p.fa p.frs.length p.fc, .slice p.da p.dfs.length p.dc]) := ho; clear oz ho hg k4 kB be hzB; have k4 := k4n; have kB := kBn; have be := ben; clear k4n kBn ben; obtain ⟨B2, d2, rfl, _, _⟩ := own_form oz'; obtain ⟨wv, hwv⟩ : ∃ x, x = wn := ⟨_, rfl⟩; rw [← hwv] at oz' oF k3 k4 kB be hHeld ⊢; (try rw [← hwv] at k14); (try rw [← hwv] at kY); clear hwv)
            (refine wpAnyL_ready (rs := [11]) (by kernel_rfl) (by simp) ?_; refine List.forall_mem_cons.2 ⟨?_, fun _ h => by cases h⟩)
            (refine stepL (o := { dst := some 37, op := Op.call { callee := Callee.builtin Builtin.append, args := #[Operand.tmp 33, Operand.tmp 36], argTypes := #[47, 47] }, type := 47, pos := "parts.go:463", after := #[{ on := 7, ground := Ground.data }, { on := 10, ground := Ground.data }, { on := 6, ground := Ground.chain }], guard := none }) rfl (fun K hK => ?_); refine step_append_any _ rfl (.tmp 33) (.tmp 36) 47 rfl w.heap.size 97 i1 _ 2 16 Tryd.underlying47 hj hjz hjs hjb rfl (by decide) _ _ _ rfl oF _ (some ⟨gi, 0, none⟩) 1 1 [.int .i64 (k : Nat), .int .i64 0] rfl (by simpa using k14.reads (size := 2) (n := 1) rfl) (by intro u hu; simp at hu; rcases hu with rfl | rfl <;> rfl) ?c2 ?c3 ?c4 ?_; (case c2 => unfold maxLen; omega); (case c3 => omega); (case c4 => exact be.size); intro v5' wn ho hg _; have k4n := k4.grown hg (own_blk_ne oF k4 (by decide)).symm; have kBn := kB.grown hg (own_blk_ne oF kB (by decide)).symm; have ben := be.grown hg be.size (fun j hj => (oF.lt j hj).1); refine hK.out _ _ (HSS.out _ k4n kBn ben) (fun hHeld => ?_); (clear hK K; (try simp only [Act.put, List.setIfInBounds_toArray, List.set_cons_zero, List.set_cons_succ])); clear k14; have oz' := own_kept oz' hg (own_row_ne oz' oF (by decide)); have k3 := k3.grown hg (own_blk_ne oF k3 (by decide)).symm; (try have kY := kY.grown hg (own_blk_ne oF kY (by decide)).symm); have oF' : wn.ownsRow w.heap.size 97 2 v5' ((F).length + 1) (prV (F) ++ [.int .i64 (k : Nat), .int .i64 0]) := ho; clear oF ho hg k4 kB be; have k4 := k4n; have kB := kBn; have be := ben; clear k4n kBn ben; obtain ⟨B3, d3, rfl, _, _⟩ := own_form oF'; obtain ⟨wv, hwv⟩ : ∃ x, x = wn := ⟨_, rfl⟩; rw [← hwv] at oz' oF' k3 k4 kB be hHeld ⊢; (try rw [← hwv] at kY); clear hwv)
            (have s0 := k4.cell 0; have u0 := k4.frozen 0; (refine wpAnyL_ready (rs := [12]) (by kernel_rfl) (by simp) ?_; refine List.forall_mem_cons.2 ⟨stepLate (o := { dst := none, op := Op.store 41 (Operand.tmp 4) (Operand.tmp 32), type := 0, pos := "parts.go:463", after := #[{ on := 6, ground := Ground.data }, { on := 11, ground := Ground.chain }, { on := 0, ground := Ground.phase }, { on := 1, ground := Ground.phase }, { on := 2, ground := Ground.phase }, { on := 3, ground := Ground.phase }, { on := 4, ground := Ground.phase }, { on := 5, ground := Ground.phase }, { on := 6, ground := Ground.phase }, { on := 7, ground := Ground.textOnly Departure.lateStores }, { on := 8, ground := Ground.textOnly Departure.lateStores }, { on := 9, ground := Ground.textOnly Departure.inlinedCapture }, { on := 10, ground := Ground.textOnly Departure.inlinedCapture }, { on := 11, ground := Ground.textOnly Departure.lateStoresUnsure }], guard := none }) rfl (by rfl) (fun K hK => ?_), fun _ h => by cases h⟩; go_simp; refine hK.out _ _ ?_; (clear hK K; (try simp only [Act.put, List.setIfInBounds_toArray, List.set_cons_zero, List.set_cons_succ]))); (refine wpAnyL_ready (rs := [13]) (by kernel_rfl) (by simp) ?_; refine List.forall_mem_cons.2 ⟨stepLate (o := { dst := some 5, op := Op.assign (Operand.tmp 37), type := 47, pos := "parts.go:463", after := #[{ on := 11, ground := Ground.data }, { on := 12, ground := Ground.chain }, { on := 0, ground := Ground.phase }, { on := 1, ground := Ground.phase }, { on := 2, ground := Ground.phase }, { on := 3, ground := Ground.phase }, { on := 4, ground := Ground.phase }, { on := 5, ground := Ground.phase }, { on := 6, ground := Ground.phase }, { on := 7, ground := Ground.phase }, { on := 8, ground := Ground.phase }, { on := 9, ground := Ground.phase }, { on := 10, ground := Ground.phase }, { on := 11, ground := Ground.phase }, { on := 12, ground := Ground.phase }], guard := none }) rfl (by rfl) (fun K hK => ?_), fun _ h => by cases h⟩; go_simp; refine hK.out _ _ ?_; (clear hK K; (try simp only [Act.put, List.setIfInBounds_toArray, List.set_cons_zero, List.set_cons_succ]))); refine wpAnyL_done (by kernel_rfl) ?_ _; go_wp2; go_meet; exact ⟨_, CX.pushed (y := (k, 0)) k3 k4 oz' oF' be h4⟩)
        case rest =>
          clear C x0 x1 kB
          obtain ⟨z', C⟩ := hcut
          go_wp2_with fail
          go_roundw
          case rel => exact ⟨k + 1, qs ++ [p], F ++ [(k, 0)], z', by omega, by go_num, by rw [List.length_append]; simp only [List.length_singleton]; omega, Lib.hid (by rw [List.length_append, List.length_append, hFq.out]; rfl), Lib.hid (by rw [List.map_append, chosen_take HXE.out, ← hch.out, HIS.out]; rfl), Lib.hid (fun y hy => by rcases List.mem_append.1 hy with hy | hy; exact Nat.lt_succ_of_lt (hFk.out y hy); simp at hy; subst hy; exact Nat.lt_succ_self _), Lib.hid (fun q hq => by rcases List.mem_append.1 hq with hq | hq; exact hQ.out q hq; simp at hq; subst hq; exact HPA.out), C⟩
          case measure => simp [intOf]; omega
      · have har' : x.arch = true := by simpa using har
        have HIS : Hid (itemStep first (qs.map PtM.er) x.er = archP first x.er.ps (qs.map PtM.er)) := by
          show _ = _
          unfold itemStep
          rw [show x.er.arch = true from har', if_pos rfl]
        have HEL : Hid (x.er.ps.length = x.ps.length) := by show _ = _; simp [ItM.er]
        have HAR : Hid (archP first x.er.ps (qs.map PtM.er) = archN first x.er.ps (x.ps.length + 1) (List.replicate x.ps.length false) (qs.map PtM.er)) := by show _ = _; unfold archP; rw [HEL.out]
        rw [har'] at x0
        clear har har' hxg
        go_wp2_with fail
        clear x0 x1
        go_loopw [5, 9] (fun v b wx => ∃ (n : Nat) (t : List Bool) (qs' : List PtM) (F' : List (Nat × Nat)) (z' : Value) (bi : Int), b = .int .i64 bi ∧ bi < (F'.length : Int) ∧ Hid (t.length = x.ps.length) ∧
          Hid (archP first x.er.ps (qs.map PtM.er) = archN first x.er.ps n t (qs'.map PtM.er)) ∧ falses t < n ∧ qs'.length + falses t = qs.length + x.ps.length ∧ Hid (F'.length = qs'.length) ∧ Hid (Marks k t F') ∧ Hid (∀ q ∈ qs', q.At w w.heap.size ∧ ckPart q.er = 0) ∧
          Blk wx gX 85 #[.bool x.arch, .slice x.pa x.ps.length x.pc] ∧ CX w wx g3 g4 Af cf first z' v qs' F') (fun v _ _ => qs.length + x.ps.length + 1 - sliceLen v)
        case atStart => exact ⟨x.ps.length + 1, List.replicate x.ps.length false, qs, F, _, -1, rfl, by omega, Lib.hid (by simp), HAR, by rw [falses_rep]; omega, by rw [falses_rep], hFq, Lib.hid (Marks.start hFk.out), hQ, kX, C⟩
        case round =>
          clear C kX HAR
          obtain ⟨n, t, qs', F', z', bi, rfl, hbi, htl, har, hfn, hcnt, hFq', hmk, hQ', kX, C⟩ := hrel
          obtain ⟨Az', cz', rfl, _, _⟩ := own_form C.oz
          obtain ⟨Ay', cy', rfl, _, _⟩ := own_form C.oF
          have q1 : decide (bi < (F'.length : Int)) = true := decide_eq_true hbi
          have x1 := kX.cell 1
          clear hbi
          go_wp2_with fail
          clear x1 q1
          go_loopw [5, 47] (fun v j wy => ∃ (m : Nat) (ag : Bool) (t' : List Bool) (qs'' : List PtM) (F'' : List (Nat × Nat)) (z'' : Value), m ≤ x.ps.length ∧ j = .int .i64 m ∧ Hid (passTo first x.er.ps t (qs'.map PtM.er) m = (t', qs''.map PtM.er, ag)) ∧ Hid (F''.length = qs''.length) ∧ Hid (Marks k t' F'') ∧
            Hid (∀ q ∈ qs'', q.At w w.heap.size ∧ ckPart q.er = 0) ∧ Blk wy gX 85 #[.bool x.arch, .slice x.pa x.ps.length x.pc] ∧ CX w wy g3 g4 Af cf first z'' v qs'' F'') (fun _ j _ => x.ps.length - (intOf j).toNat)
          case atStart => exact ⟨0, false, t, qs', F', _, Nat.zero_le _, rfl, Lib.hid rfl, hFq', hmk, hQ', kX, C⟩
          case round =>
            clear C kX
            obtain ⟨m, ag, t', qs'', F'', z'', hm, rfl, hps, hFq'', hmk'', hQ'', kX, C⟩ := hrel
            obtain ⟨Az'', cz'', rfl, _, _⟩ := own_form C.oz
            obtain ⟨Ay'', cy'', rfl, _, _⟩ := own_form C.oF
            have hcn := passTo_count first x.er.ps t (qs'.map PtM.er) (by rw [htl.out, HEL.out]) m (by rw [HEL.out]; exact hm)
            rw [hps.out, HEL.out] at hcn
            simp only [List.length_map] at hcn
            obtain ⟨hc1, hc2, hc3, hc4⟩ := hcn
            have hqb : qs''.length ≤ 104 := by omega
            have hFb : F''.length ≤ 104 := by rw [hFq''.out]; exact hqb
            by_cases hml : m < x.ps.length
            · obtain ⟨p, hp⟩ : ∃ p, x.ps[m]? = some p := ⟨_, List.getElem?_eq_getElem hml⟩
              have hpm := List.mem_of_getElem? hp
              have hpe : x.er.ps[m]? = some p.er := by simp [ItM.er, hp]
              have hxg := HG.out.keep C.be (Nat.le_refl _)
              obtain ⟨b1, o1, hxa, bl1, d0, d1⟩ := pt_get hxg.ps.row hp
              have HPA := Lib.hid (And.intro (HG.out.ps.each p hpm) (HPO.out p hpm))
              obtain ⟨tb, htb⟩ : ∃ b, t'[m]? = some b := ⟨_, List.getElem?_eq_getElem (by omega)⟩
              have HTB := Lib.hid htb
              have HPE := Lib.hid hpe
              have HML : Hid (m < t'.length) := by show m < t'.length; omega
              rw [hxa] at kX ⊢
              clear hp hpm hpe hxa hxg htb hc3 bl1
              go_upto_region 13 with (fail)
              have kP := Blk.new wr 25 #[.slice p.fa p.frs.length p.fc, .slice p.da p.dfs.length p.dc]
              have HZB : Hid ((Value.slice Az'' qs''.length cz'').ownBlock ≠ some wr.heap.size) := fun e => Nat.lt_irrefl _ (C.oz.lt _ e).2
              have hbx : Below wr.heap.size wr (wr.alloc (.cells #[.slice (p).fa (p).frs.length (p).fc, .slice (p).da (p).dfs.length (p).dc] 25)) := by (repeat' (first | exact Below.refl _ _ | assumption | refine Below.setCell ?_ (by first | omega | exact Below.size (by assumption) | (simp; done) | (simp; omega)) _ | refine Below.alloc ?_ (by first | omega | exact Below.size (by assumption) | (simp; done) | (simp; omega)) _ | refine Below.drew ?_ | refine below_drewN ?_ _))
              replace C := C.all hbx
              replace kX := kX.all hbx
              obtain ⟨gP, hgP⟩ : ∃ g, g = wr.heap.size := ⟨_, rfl⟩
              obtain ⟨W5, hW5⟩ : ∃ W', W' = wr.alloc (.cells #[.slice (p).fa (p).frs.length (p).fc, .slice (p).da (p).dfs.length (p).dc] 25) := ⟨_, rfl⟩
              rw [← hgP] at kP HZB ⊢
              rw [← hW5] at kP kX C ⊢
              clear hW5 hgP hbx d0 d1
              have hCP := containsPr_any Ay'' cy'' F'' k m W5 (Reads.of_own C.oF) (by omega)
              rw [hmk''.out.in_ HTB.out] at hCP
              have HCP := Lib.hid hCP
              clear hCP
              cases tb with
              | true =>
                have HS := Lib.hid ((passTo_succ first x.er.ps t (qs'.map PtM.er) m).trans ((congrArg (fun st => passStep first x.er.ps st m) hps.out).trans (passStep_leave HPE.out (.inl HTB.out))))
                go_wp2_with fail
                refine HCP.out.mono ?_
                rintro e w6 ⟨rfl, hb6⟩
                go_wp2_with fail
                go_roundw
                case rel => exact ⟨m + 1, ag, t', qs'', F'', _, by omega, by go_num, HS, hFq'', hmk'', hQ'', kX.all hb6, C.all hb6⟩
                case measure => simp [intOf]; omega
              | false =>
                go_wp2_with fail
                refine HCP.out.mono ?_
                rintro e w6 ⟨rfl, hb6⟩
                replace C := C.all hb6
                replace kX := kX.all hb6
                replace kP := kP.all hb6
                clear hb6 HCP
                have HL := Lib.hid (lackC_any g3 g4 Af cf first Az'' cz'' qs'' w6 C.k3 C.k4 ((hf.below C.be).more C.be.size) (Reads.of_own C.oz) (fun q hq => ⟨(hQ''.out q hq).1.keep C.be C.be.size, (hQ''.out q hq).2⟩) hfl HFS.out hqb)
                go_wp2_with fail
                refine HL.out.mono ?_
                rintro e w7 ⟨g, n7, S, rfl, hset, hS, hb7⟩
                replace C := C.all hb7
                replace kX := kX.all hb7
                replace kP := kP.all hb7
                have HSS := Lib.hid hS
                clear hb7 HL hS
                have hd60 := (small_of HPA.out.2).df
                have p1 := kP.cell 1
                go_wp2_with fail
                clear p1
                go_loopw [5, 62] (fun v j wz => ∃ q : Nat, v = .slice Ay'' F''.length cy'' ∧ q ≤ p.dfs.length ∧ j = .int .i64 q ∧ Hid (((p.dfs.take q).any (helpD (wantS first (qs''.map PtM.er)) (haveS (qs''.map PtM.er)))) = false) ∧ SetT wz g n7 S ∧
                  Blk wz gP 25 #[.slice p.fa p.frs.length p.fc, .slice p.da p.dfs.length p.dc] ∧ Blk wz gX 85 #[.bool x.arch, .slice (some ⟨b1, o1, none⟩) x.ps.length x.pc] ∧ CX w wz g3 g4 Af cf first (.slice Az'' qs''.length cz'') v qs'' F'') (fun _ j _ => p.dfs.length - (intOf j).toNat)
                case atStart => exact ⟨0, rfl, Nat.zero_le _, rfl, Lib.hid rfl, hset, kP, kX, C⟩
                case round =>
                  clear hset kP kX C
                  obtain ⟨q, rfl, hq, rfl, hno, hset, kP, kX, C⟩ := hrel
                  by_cases hql : q < p.dfs.length
                  · obtain ⟨d, hd⟩ : ∃ d, p.dfs[q]? = some d := ⟨_, List.getElem?_eq_getElem hql⟩
                    obtain ⟨b2, o2, hda, bl2, e0, e1, e2, e3, e4, e5⟩ := df_get ((HPA.out.1.keep C.be C.be.size).df) hd
                    have hn8 := nameB_short (def_name HPA.out.2 (List.mem_of_getElem? hd))
                    have HDQ := Lib.hid hd
                    rw [hda] at kP ⊢
                    have HDA := Lib.hid hda
                    clear hd hda
                    go_upto_region 18 with (fail)
                    have kD := Blk.new wr 70 #[.string (d).name, .int .i64 (d).kind, .int .i64 (d).frag, .int .i64 (d).at_, .int .i64 (d).size, .int .i64 (d).align]
                    have hbx : Below wr.heap.size wr (wr.alloc (.cells #[.string (d).name, .int .i64 (d).kind, .int .i64 (d).frag, .int .i64 (d).at_, .int .i64 (d).size, .int .i64 (d).align] 70)) := by (repeat' (first | exact Below.refl _ _ | assumption | refine Below.setCell ?_ (by first | omega | exact Below.size (by assumption) | (simp; done) | (simp; omega)) _ | refine Below.alloc ?_ (by first | omega | exact Below.size (by assumption) | (simp; done) | (simp; omega)) _ | refine Below.drew ?_ | refine below_drewN ?_ _))
                    replace C := C.all hbx
                    replace kX := kX.all hbx
                    replace kP := kP.all hbx
                    replace hset := hset.all hbx
                    obtain ⟨gD, hgD⟩ : ∃ g, g = wr.heap.size := ⟨_, rfl⟩
                    obtain ⟨W8, hW8⟩ : ∃ W', W' = wr.alloc (.cells #[.string (d).name, .int .i64 (d).kind, .int .i64 (d).frag, .int .i64 (d).at_, .int .i64 (d).size, .int .i64 (d).align] 70) := ⟨_, rfl⟩
                    rw [← hgD] at kD ⊢
                    rw [← hW8] at kD kP kX C hset ⊢
                    clear hW8 hgD hbx e0 e1 e2 e3 e4 e5 bl2
                    have d0 := kD.cell 0
                    have d1 := kD.cell 1
                    have look := hset.is.look (s := d.name) (by omega)
                    by_cases h3 : d.kind = 3
                    · have q3 : (d.kind != 3) = false := by simpa using h3
                      have HNO : Hid ((p.dfs.take (q + 1)).any (helpD (wantS first (qs''.map PtM.er)) (haveS (qs''.map PtM.er))) = false) := (any_take HDQ.out hno.out).trans (by unfold helpD; rw [q3]; rfl)
                      clear h3 look
                      go_wp2_with fail
                      go_roundw
                      case rel => exact ⟨q + 1, rfl, by omega, by go_num, HNO, hset, kP, kX, C⟩
                      case measure => simp [intOf]; omega
                    · have q3 : (d.kind != 3) = true := by simpa using h3
                      by_cases hn : d.name ∈ S
                      · rw [decide_eq_true hn] at look
                        have hwd := (HSS.out d.name).1 hn
                        have HHB : Hid (helpsB first (qs''.map PtM.er) p.er = true) := any_some (l := p.dfs) HDQ.out (by unfold helpD; rw [q3, decide_eq_true hwd.1, decide_eq_false hwd.2]; rfl)
                        have HS := Lib.hid ((passTo_succ first x.er.ps t (qs'.map PtM.er) m).trans ((congrArg (fun st => passStep first x.er.ps st m) hps.out).trans (passStep_take HPE.out HTB.out HHB.out)))
                        clear h3 hn hwd
                        go_upto_region 19 with (fail)
                        clear look d0 d1 kD hset
                        rw [← HDA.out] at kP ⊢
                        obtain ⟨i0, hi, hiz, his, hib⟩ := info_parts Tryd.infoParts
                        obtain ⟨i1, hj, hjz, hjs, hjb⟩ := info_parts Tryd.infoPair
                        have p0 := kP.cell 0
                        have p1 := kP.cell 1
                        have r0 := C.k4.cell 0
                        go_wp2_with (at_builtin
                                     first
                                     | (refine wpList_append_own _ rfl (.tmp 75) (.tmp 77) 41 rfl w.heap.size 25 i0 _ 2 48 Tryd.underlying41 hi hiz his hib rfl (by decide) _ _ _ rfl (C.oz.alloc _) ⟨W8.heap.size, 0, none⟩ 1 1 [.slice p.fa p.frs.length p.fc, .slice p.da p.dfs.length p.dc] rfl rfl ?c1 ?c2 ?c3 ?c4 ?c5 ?_
                                        case c1 => exact fun j u hu => cells_new j u hu
                                        case c2 => exact pt_one p
                                        case c3 => unfold maxLen; omega
                                        case c4 => omega
                                        case c5 => have := C.be.size; simp; omega
                                        intro v' w6 hown6 hg6 _
                                        have hst : Below W8.heap.size W8 (W8.alloc (.cells #[.slice p.fa p.frs.length p.fc, .slice p.da p.dfs.length p.dc] 25)) := by (repeat' (first | exact Below.refl _ _ | assumption | refine Below.setCell ?_ (by first | omega | exact Below.size (by assumption) | (simp; done) | (simp; omega)) _ | refine Below.alloc ?_ (by first | omega | exact Below.size (by assumption) | (simp; done) | (simp; omega)) _ | refine Below.drew ?_ | refine below_drewN ?_ _))
                                        have Ca := C.all hst
                                        have k3 := Ca.k3.grown hg6 (own_blk_ne Ca.oz Ca.k3 (by decide)).symm
                                        have k4 := Ca.k4.grown hg6 (own_blk_ne Ca.oz Ca.k4 (by decide)).symm
                                        have kX := (kX.all hst).grown hg6 (own_blk_ne Ca.oz (kX.all hst) (by decide)).symm
                                        have oF := own_kept Ca.oF hg6 (own_row_ne Ca.oF Ca.oz (by decide))
                                        have be := Ca.be.grown hg6 Ca.be.size (fun j hj => (Ca.oz.lt j hj).1)
                                        have h4 := C.h4
                                        obtain ⟨B2, d2, rfl, _, _⟩ := own_form hown6
                                        clear p0 p1 r0 C Ca hst hg6 kP)
                                     | (refine wpList_append_own _ rfl (.tmp 79) (.tmp 83) 47 rfl w.heap.size 97 i1 _ 2 16 Tryd.underlying47 hj hjz hjs hjb rfl (by decide) _ _ _ rfl (oF.alloc _) ⟨w6.heap.size, 0, none⟩ 1 1 [.int .i64 (k : Nat), .int .i64 (m : Nat)] rfl rfl ?c1 ?c2 ?c3 ?c4 ?c5 ?_
                                        case c1 => exact fun j u hu => cells_new j u hu
                                        case c2 => intro u hu; simp at hu; rcases hu with rfl | rfl <;> rfl
                                        case c3 => unfold maxLen; omega
                                        case c4 => omega
                                        case c5 => have := be.size; simp; omega
                                        intro v5' w9 hown9 hg9 _
                                        have hst : Below w6.heap.size w6 (w6.alloc (.cells #[.int .i64 (k : Nat), .int .i64 (m : Nat)] 97)) := by (repeat' (first | exact Below.refl _ _ | assumption | refine Below.setCell ?_ (by first | omega | exact Below.size (by assumption) | (simp; done) | (simp; omega)) _ | refine Below.alloc ?_ (by first | omega | exact Below.size (by assumption) | (simp; done) | (simp; omega)) _ | refine Below.drew ?_ | refine below_drewN ?_ _))
                                        have oFa := oF.alloc (.cells #[.int .i64 (k : Nat), .int .i64 (m : Nat)] 97)
                                        replace k3 := (k3.all hst).grown hg9 (own_blk_ne oFa (k3.all hst) (by decide)).symm
                                        replace k4 := (k4.all hst).grown hg9 (own_blk_ne oFa (k4.all hst) (by decide)).symm
                                        replace kX := (kX.all hst).grown hg9 (own_blk_ne oFa (kX.all hst) (by decide)).symm
                                        have oz' := own_kept (own_all hown6 hst) hg9 (own_row_ne (own_all hown6 hst) oFa (by decide))
                                        replace be := (be.alloc be.size (.cells #[.int .i64 (k : Nat), .int .i64 (m : Nat)] 97)).grown hg9 (by have := be.size; simp; omega) (fun j hj => (oF.lt j hj).1)
                                        have r0 := k4.cell 0
                                        have f0 := k4.frozen 0
                                        clear hown6 oF oFa hst hg9))
                        have C := CX.pushed (y := (k, m)) k3 k4 oz' hown9 be h4
                        replace kX := kX.far (kX.ne_ k4 (by decide)) (p := ⟨g4, 0, none⟩) (.slice B2 (qs''.length + 1) d2)
                        clear k3 k4 oz' hown9 be r0 f0
                        go_roundw
                        case rel => exact ⟨m + 1, true, t'.set m true, qs'' ++ [p], F'' ++ [(k, m)], _, by omega, by go_num, Lib.hid (by rw [List.map_append]; exact HS.out), Lib.hid (by rw [List.length_append, List.length_append, hFq''.out]; rfl), Lib.hid (hmk''.out.take HML.out), Lib.hid (fun q hq => by rcases List.mem_append.1 hq with hq | hq; exact hQ''.out q hq; simp at hq; subst hq; exact HPA.out), kX, C⟩
                        case measure => simp [intOf]; omega
                      · rw [decide_eq_false hn] at look
                        have HNO : Hid ((p.dfs.take (q + 1)).any (helpD (wantS first (qs''.map PtM.er)) (haveS (qs''.map PtM.er))) = false) := (any_take HDQ.out hno.out).trans (by
                          unfold helpD
                          have h1 : (decide (d.name ∈ wantS first (qs''.map PtM.er)) && !decide (d.name ∈ haveS (qs''.map PtM.er))) = false := by
                            rw [Bool.and_eq_false_iff]
                            by_cases hw : d.name ∈ wantS first (qs''.map PtM.er)
                            · right
                              by_cases hh : d.name ∈ haveS (qs''.map PtM.er)
                              · simp [hh]
                              · exact absurd ((HSS.out d.name).2 ⟨hw, hh⟩) hn
                            · left; simp [hw]
                          rw [h1]
                          simp)
                        clear h3 hn
                        go_wp2_with fail
                        go_roundw
                        case rel => exact ⟨q + 1, rfl, by omega, by go_num, HNO, hset, kP, kX, C⟩
                        case measure => simp [intOf]; omega
                  · obtain rfl : q = p.dfs.length := by omega
                    have HHB : Hid (helpsB first (qs''.map PtM.er) p.er = false) := by
                      have := hno.out
                      rw [List.take_length] at this
                      exact this
                    have HS := Lib.hid ((passTo_succ first x.er.ps t (qs'.map PtM.er) m).trans ((congrArg (fun st => passStep first x.er.ps st m) hps.out).trans (passStep_leave HPE.out (.inr HHB.out))))
                    go_wp2_with fail
                    go_roundw
                    case rel => exact ⟨m + 1, ag, t', qs'', F'', _, by omega, by go_num, HS, hFq'', hmk'', hQ'', kX, C⟩
                    case measure => simp [intOf]; omega
            · obtain rfl : m = x.ps.length := by omega
              have hps' := hps.out
              rw [← HEL.out] at hps'
              obtain ⟨n, rfl⟩ : ∃ n', n = n' + 1 := ⟨n - 1, by omega⟩
              cases ag with
              | false =>
                have e2 : ¬ qs'.length < qs''.length := fun e => by have := hc3.2 e; cases this
                have q5 : ((F'.length : Int) == (F''.length : Int)) = true := by rw [hFq'.out, hFq''.out]; simp; omega
                have HR : Hid (archP first x.er.ps (qs.map PtM.er) = qs''.map PtM.er) := by show _ = _; rw [har.out, archN, hps', if_neg (by simp)]
                have hq9 : qs''.length ≤ 8 * (k + 1) := by omega
                clear hps' hc3
                go_wp2_with fail
                go_roundw
                case rel => exact ⟨k + 1, qs'', F'', _, by omega, by go_num, hq9, hFq'', Lib.hid (by rw [chosen_take HXE.out, ← hch.out, HIS.out, HR.out]), Lib.hid (fun y hy => Nat.lt_succ_of_le (hmk''.out.2 y hy)), hQ'', C⟩
                case measure => simp [intOf]; omega
              | true =>
                have e2 : qs'.length < qs''.length := hc3.1 rfl
                have q5 : ((F'.length : Int) == (F''.length : Int)) = false := by rw [hFq'.out, hFq''.out]; simp; omega
                have HR : Hid (archP first x.er.ps (qs.map PtM.er) = archN first x.er.ps n t' (qs''.map PtM.er)) := by show _ = _; rw [har.out, archN, hps', if_pos rfl]
                have hlt2 : F'.length < F''.length := by rw [hFq'.out, hFq''.out]; exact e2
                have hF9 : F''.length ≤ qs.length + x.ps.length := by rw [hFq''.out]; omega
                have htl' : Hid (t'.length = x.ps.length) := hc1
                clear hps' hc3
                go_wp2_with fail
                go_roundw
                case rel => exact ⟨n, t', qs'', F'', _, (F'.length : Int), rfl, by omega, htl', HR, by omega, by omega, hFq'', hmk'', hQ'', kX, C⟩
                case measure => simp [sliceLen]; omega
    · obtain rfl : k = l.length := by omega
      have HE : Hid (qs.map PtM.er = chosenP (l.map ItM.er) first) := by show _ = _; rw [hch.out, ← List.length_map (f := ItM.er), List.take_length]
      have hq96 : qs.length ≤ 96 := by omega
      have r0 := C.k4.cell 0
      have f0 := C.k4.frozen 0
      go_wp2_with fail
      have kZ := C.k4.set_ 0 (.slice Az qs.length cz)
      have r1 := kZ.cell 0
      simp only [List.setIfInBounds_toArray, List.set_cons_zero, List.getElem?_toArray, List.getElem?_cons_zero] at r1
      refine bodyPost_ret (v := .tuple #[.slice Az qs.length cz, .slice Ay F.length cy]) (by simp [results, Tryd.results21, go_sem, r1]) rfl ?_
      have hb9 : Below w.heap.size w (wr.setCell ⟨g4, 0, none⟩ (.slice Az qs.length cz)) := C.be.setCell C.h4 _
      exact ⟨Az, cz, _, qs, rfl, ⟨Reads.of_own (own_setCell C.oz (own_blk_ne C.oz C.k4 (by decide)) _), fun q hq => (hQ.out q hq).1.keep hb9 hb9.size⟩, HE.out, hq96, hb9⟩
end Go.Proofs.YtmlomnhjbmocfaaDoor
