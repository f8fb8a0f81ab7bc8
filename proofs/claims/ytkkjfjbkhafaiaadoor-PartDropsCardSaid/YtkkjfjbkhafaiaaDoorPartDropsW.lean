/- ropewalklaw.PartDrops: the call returns true. -/
import Derived.Test.YtkkjfjbkhafaiaaDoorRefDrop
import Derived.Test.YtkkjfjbkhafaiaaDoorRefGroups
import Derived.Test.YtkkjfjbkhafaiaaDoorRefCheck
import Derived.Test.YtkkjfjbkhafaiaaDoorRefSame
import Derived.Test.YtkkjfjbkhafaiaaDoorSplicedW
import Derived.Test.YtkkjfjbkhafaiaaDoorAllW
import Derived.Deep.RegionHeld3
namespace Go.Proofs.YtkkjfjbkhafaiaaDoor
open Go.RowKit

set_option maxHeartbeats 20000000 in
set_option maxRecDepth 100000 in
theorem partDrops_any (p : PtM) (A : Option Addr) (c : Nat) (l : List ByteArray) (w : World) (hp : p.At w w.heap.size) (hl : Reads w w.heap.size 1 A l.length (strsV l)) (hlm : l.length ≤ 9223372036854775807) :
    Calls Tryd.prog 4 #[.agg #[.slice p.fa p.frs.length p.fc, .slice p.da p.dfs.length p.dc], .slice A l.length c] w
      fun e w' => e = .returned (.bool true) ∧ Below w.heap.size w w' := by
  go_enter Tryd.func4, Tryd.ntmps4
  go_upto_region 1 with (fail)
  have hB := (Below.refl w.heap.size w).alloc (Nat.le_refl _) (.cells #[.slice (p).fa (p).frs.length (p).fc, .slice (p).da (p).dfs.length (p).dc] 25)
  have k1 := Blk.new w 25 #[.slice p.fa p.frs.length p.fc, .slice p.da p.dfs.length p.dc]
  have a1 := hp.all hB
  have hl := (hl.below hB).more hB.size
  obtain ⟨W, hW⟩ : ∃ W', W' = w.alloc (.cells #[.slice (p).fa (p).frs.length (p).fc, .slice (p).da (p).dfs.length (p).dc] 25) := ⟨_, rfl⟩
  obtain ⟨g1, hg1⟩ : ∃ g, g = w.heap.size := ⟨_, rfl⟩
  rw [← hW] at k1 a1 hB hl ⊢
  have hB' : Below w.heap.size w W := hB
  rw [← hg1] at k1 ⊢
  clear hW hp hg1 hB'
  have q0 := k1.cell 0
  have q1 := k1.cell 1
  go_wp2_with fail
  refine (groupsOut_any p W a1).mono ?_
  rintro e w1 ⟨v, rfl, hv0, hv1, hs⟩
  clear q0 q1
  replace k1 := k1.all hs
  replace a1 := a1.all hs
  have hl := (hl.below hs).more hs.size
  replace hB := hB.trans (hs.mono hB.size)
  clear hs
  by_cases hc : ckPart p.er = 0
  · have r1 := hv1 hc
    have hok := (ok_iff _).1 hc
    have hn := (small_of hc).fr
    have hD := dropRes_ok (l := l) hc
    rw [hc]
    clear hv0 hv1
    have hX60 : (groupsOf p.er.frs).length ≤ 9223372036854775807 := by
      have h1 := groupsOf_len p.er.frs
      have h2 : p.er.frs.length = p.frs.length := by simp [PtM.er]
      omega
    obtain ⟨X, hX⟩ : ∃ X, groupsOf p.er.frs = X := ⟨_, rfl⟩
    rw [hX] at r1 hX60
    obtain ⟨Ag, cg, rfl, hg1, hg2⟩ := own_form r1
    have q0 := k1.cell 0
    have q1 := k1.cell 1
    go_wp2_with fail
    refine (dropOut_any p A c l w1 a1 hl hlm).mono ?_
    rintro e w2 ⟨p7, rfl, o7, e7, hs2⟩
    rw [hD] at e7 ⊢
    clear q0 q1 hD
    go_upto_region 3 with (fail)
    have hs := hs2.alloc hs2.size (.cells #[.slice (p7).fa (p7).frs.length (p7).fc, .slice (p7).da (p7).dfs.length (p7).dc] 25)
    have k7 := Blk.new w2 25 #[.slice p7.fa p7.frs.length p7.fc, .slice p7.da p7.dfs.length p7.dc]
    have a7 := (o7.alloc (.cells #[.slice (p7).fa (p7).frs.length (p7).fc, .slice (p7).da (p7).dfs.length (p7).dc] 25)).at_
    obtain ⟨g7, hg7⟩ : ∃ g, g = w2.heap.size := ⟨_, rfl⟩
    obtain ⟨W, hW⟩ : ∃ W', W' = w2.alloc (.cells #[.slice (p7).fa (p7).frs.length (p7).fc, .slice (p7).da (p7).dfs.length (p7).dc] 25) := ⟨_, rfl⟩
    rw [← hg7] at k7 ⊢
    rw [← hW] at hs k7 a7 ⊢
    clear hW hg7 hs2 o7
    replace k1 := k1.all hs
    replace a1 := a1.all hs
    replace r1 := own_all r1 hs
    have hl := (hl.below hs).more hs.size
    replace hB := hB.trans (hs.mono hB.size)
    clear hs
    have q0 := k1.cell 0
    have q1 := k1.cell 1
    go_wp2_with fail
    refine (refCheck_any p W a1).mono ?_
    rintro e w3 ⟨rfl, hs⟩
    rw [hc]
    clear q0 q1
    replace k1 := k1.all hs
    replace k7 := k7.all hs
    replace a1 := a1.all hs
    replace a7 := a7.all hs
    replace r1 := own_all r1 hs
    have hl := (hl.below hs).more hs.size
    replace hB := hB.trans (hs.mono hB.size)
    clear hs
    go_wp2_with fail
    refine (spliced_any w3).mono ?_
    rintro e w4 ⟨rfl, hs⟩
    replace k1 := k1.all hs
    replace k7 := k7.all hs
    replace a1 := a1.all hs
    replace a7 := a7.all hs
    replace r1 := own_all r1 hs
    have hl := (hl.below hs).more hs.size
    replace hB := hB.trans (hs.mono hB.size)
    clear hs
    have rN := Reads.of_own r1
    clear r1
    have hS : ∀ w', Below w4.heap.size w4 w' → (w'.cell? ⟨g1, 0, none⟩ = some (.slice p.fa p.frs.length p.fc) ∧ w'.cell? ⟨g1, 1, none⟩ = some (.slice p.da p.dfs.length p.dc) ∧ w'.cell? ⟨g7, 0, none⟩ = some (.slice p7.fa p7.frs.length p7.fc) ∧ w'.cell? ⟨g7, 1, none⟩ = some (.slice p7.da p7.dfs.length p7.dc)) := fun w' h =>
      ⟨(k1.all h).cell 0, (k1.all h).cell 1, (k7.all h).cell 0, (k7.all h).cell 1⟩
    replace hS := Lib.hid hS
    have hb : Below w4.heap.size w4 w4.drew := (Below.refl _ _).drew
    clear k1 k7
    go_upto_region 6 with (fail)
    refine wp_region_held_drew (S := (fun w' => w'.cell? ⟨g1, 0, none⟩ = some (.slice p.fa p.frs.length p.fc) ∧ w'.cell? ⟨g1, 1, none⟩ = some (.slice p.da p.dfs.length p.dc) ∧ w'.cell? ⟨g7, 0, none⟩ = some (.slice p7.fa p7.frs.length p7.fc) ∧ w'.cell? ⟨g7, 1, none⟩ = some (.slice p7.da p7.dfs.length p7.dc))) (by kernel_rfl) (hS.out _ hb) (fun hHeld => ?_)
    (refine wpAnyH_take (i := 0) (oi := { dst := some 50, op := Op.move (Operand.tmp 6), type := 31, pos := "law1.go:115", after := #[], guard := none }) (v := ?_) rfl (by kernel_rfl) (by kernel_rfl) (by kernel_rfl) (fun _ _ _ h => h) (Or.inl ⟨by rfl, ?_⟩) (by assumption) ?_; rotate_left; (focus (intro w hSw; (try dsimp only at hSw); go_simp; (try with_reducible rfl))); (try simp only [Act.put, List.setIfInBounds_toArray, List.set_cons_zero, List.set_cons_succ]))
    (refine wpAnyH_take (i := 1) (oi := { dst := some 51, op := Op.binOp BinOp.eql 31 (Operand.tmp 50) (Operand.const (Value.int IntKind.i64 0)) 31, type := 4, pos := "law1.go:115", after := #[{ on := 0, ground := Ground.data }], guard := none }) (v := ?_) rfl (by kernel_rfl) (by kernel_rfl) (by kernel_rfl) (fun _ _ _ h => h) (Or.inl ⟨by rfl, ?_⟩) (by assumption) ?_; rotate_left; (focus (intro w hSw; (try dsimp only at hSw); go_simp; (try with_reducible rfl))); (try simp only [Act.put, List.setIfInBounds_toArray, List.set_cons_zero, List.set_cons_succ]))
    (refine wpAnyH_take (i := 2) (oi := { dst := some 52, op := Op.move (Operand.tmp 51), type := 4, pos := "law1.go:115", after := #[{ on := 1, ground := Ground.data }], guard := none }) (v := ?_) rfl (by kernel_rfl) (by kernel_rfl) (by kernel_rfl) (fun _ _ _ h => h) (Or.inl ⟨by rfl, ?_⟩) (by assumption) ?_; rotate_left; (focus (intro w hSw; (try dsimp only at hSw); go_simp; (try with_reducible rfl))); (try simp only [Act.put, List.setIfInBounds_toArray, List.set_cons_zero, List.set_cons_succ]))
    (refine wpAnyH_take (i := 3) (oi := { dst := some 53, op := Op.move (Operand.tmp 8), type := 31, pos := "law1.go:115", after := #[{ on := 2, ground := Ground.guard }], guard := some (2, true) }) (v := ?_) rfl (by kernel_rfl) (by kernel_rfl) (by kernel_rfl) (fun _ _ _ h => h) (Or.inl ⟨by rfl, ?_⟩) (by assumption) ?_; rotate_left; (focus (intro w hSw; (try dsimp only at hSw); go_simp; (try with_reducible rfl))); (try simp only [Act.put, List.setIfInBounds_toArray, List.set_cons_zero, List.set_cons_succ]))
    (refine wpAnyH_take (i := 4) (oi := { dst := some 54, op := Op.binOp BinOp.eql 31 (Operand.tmp 53) (Operand.const (Value.int IntKind.i64 0)) 31, type := 4, pos := "law1.go:115", after := #[{ on := 3, ground := Ground.data }, { on := 2, ground := Ground.guard }], guard := some (2, true) }) (v := ?_) rfl (by kernel_rfl) (by kernel_rfl) (by kernel_rfl) (fun _ _ _ h => h) (Or.inl ⟨by rfl, ?_⟩) (by assumption) ?_; rotate_left; (focus (intro w hSw; (try dsimp only at hSw); go_simp; (try with_reducible rfl))); (try simp only [Act.put, List.setIfInBounds_toArray, List.set_cons_zero, List.set_cons_succ]))
    (refine wpAnyH_take (i := 5) (oi := { dst := some 55, op := Op.pick (Operand.tmp 52) (Operand.tmp 54) (Operand.const (Value.bool false)), type := 4, pos := "law1.go:115", after := #[{ on := 2, ground := Ground.data }, { on := 4, ground := Ground.data }], guard := none }) (v := ?_) rfl (by kernel_rfl) (by kernel_rfl) (by kernel_rfl) (fun _ _ _ h => h) (Or.inl ⟨by rfl, ?_⟩) (by assumption) ?_; rotate_left; (focus (intro w hSw; (try dsimp only at hSw); go_simp; (try with_reducible rfl))); (try simp only [Act.put, List.setIfInBounds_toArray, List.set_cons_zero, List.set_cons_succ]))
    (refine wpAnyH_take (i := 6) (oi := { dst := some 56, op := Op.move (Operand.tmp 55), type := 4, pos := "law1.go:115", after := #[{ on := 5, ground := Ground.data }, { on := 2, ground := Ground.chain }], guard := none }) (v := ?_) rfl (by kernel_rfl) (by kernel_rfl) (by kernel_rfl) (fun _ _ _ h => h) (Or.inl ⟨by rfl, ?_⟩) (by assumption) ?_; rotate_left; (focus (intro w hSw; (try dsimp only at hSw); go_simp; (try with_reducible rfl))); (try simp only [Act.put, List.setIfInBounds_toArray, List.set_cons_zero, List.set_cons_succ]))
    (refine wpAnyH_take (i := 7) (oi := { dst := some 57, op := Op.move (Operand.tmp 5), type := 38, pos := "law1.go:115", after := #[{ on := 6, ground := Ground.guard }], guard := some (6, true) }) (v := ?_) rfl (by kernel_rfl) (by kernel_rfl) (by kernel_rfl) (fun _ _ _ h => h) (Or.inl ⟨by rfl, ?_⟩) (by assumption) ?_; rotate_left; (focus (intro w hSw; (try dsimp only at hSw); go_simp; (try with_reducible rfl))); (try simp only [Act.put, List.setIfInBounds_toArray, List.set_cons_zero, List.set_cons_succ]))
    (refine wpAnyH_take (i := 8) (oi := { dst := some 58, op := Op.load 25 (Operand.tmp 2), type := 25, pos := "law1.go:115", after := #[{ on := 6, ground := Ground.guard }], guard := some (6, true) }) (v := ?_) rfl (by kernel_rfl) (by kernel_rfl) (by kernel_rfl) (fun _ _ _ h => h) (Or.inl ⟨by rfl, ?_⟩) (by assumption) ?_; rotate_left; (focus (intro w hSw; (try dsimp only at hSw); go_simp; (try with_reducible rfl))); (try simp only [Act.put, List.setIfInBounds_toArray, List.set_cons_zero, List.set_cons_succ]))
    (refine wpAnyH_ready (rs := [9]) (by kernel_rfl) (by simp) ?_; refine AllReadyH.cons (o := { dst := some 59, op := Op.call { callee := Callee.value (Operand.func 22), args := #[Operand.tmp 58], argTypes := #[25] }, type := 38, pos := "law1.go:115", after := #[{ on := 8, ground := Ground.data }, { on := 6, ground := Ground.chain }, { on := 6, ground := Ground.guard }], guard := some (6, true) }) rfl (fun K hK => ?_) AllReadyH.nil; go_simp; (go_at_call 22; refine (refGroups_any p _ (a1.all hb) hn).mono ?_; rintro e w' ⟨v, rfl, ro, hs⟩; obtain ⟨Ah, ch, rfl, hh1, hh2⟩ := own_form ro); replace hb := hb.trans (hs.mono hb.size); clear hs; go_wp2_with fail; refine hK.out _ _ (hS.out _ hb) (fun hHeld => ?_); clear hK K; (try simp only [Act.put, List.setIfInBounds_toArray, List.set_cons_zero, List.set_cons_succ]))
    rw [hX] at ro
    (refine wpAnyH_ready (rs := [10]) (by kernel_rfl) (by simp) ?_; refine AllReadyH.cons (o := { dst := some 60, op := Op.call { callee := Callee.value (Operand.func 21), args := #[Operand.tmp 57, Operand.tmp 59], argTypes := #[38, 38] }, type := 4, pos := "law1.go:115", after := #[{ on := 7, ground := Ground.data }, { on := 9, ground := Ground.data }, { on := 9, ground := Ground.chain }, { on := 6, ground := Ground.guard }], guard := some (6, true) }) rfl (fun K hK => ?_) AllReadyH.nil; go_simp; (go_at_call 21; refine (equalStrs_any Ag Ah cg ch X X _ ((rN.below hb).more hb.size) (Reads.of_own ro) hX60).mono ?_; rintro e w' ⟨he, hs⟩; rw [show (X == X) = true from by simp] at he; subst he); replace hb := hb.trans (hs.mono hb.size); clear hs; go_wp2_with fail; refine hK.out _ _ (hS.out _ hb) (fun hHeld => ?_); clear hK K; (try simp only [Act.put, List.setIfInBounds_toArray, List.set_cons_zero, List.set_cons_succ]))
    (refine wpAnyH_take (i := 11) (oi := { dst := some 61, op := Op.pick (Operand.tmp 56) (Operand.tmp 60) (Operand.const (Value.bool false)), type := 4, pos := "law1.go:115", after := #[{ on := 6, ground := Ground.data }, { on := 10, ground := Ground.data }], guard := none }) (v := ?_) rfl (by kernel_rfl) (by kernel_rfl) (by kernel_rfl) (fun _ _ _ h => h) (Or.inl ⟨by rfl, ?_⟩) (by assumption) ?_; rotate_left; (focus (intro w hSw; (try dsimp only at hSw); go_simp; (try with_reducible rfl))); (try simp only [Act.put, List.setIfInBounds_toArray, List.set_cons_zero, List.set_cons_succ]))
    (refine wpAnyH_take (i := 12) (oi := { dst := some 62, op := Op.move (Operand.tmp 61), type := 4, pos := "law1.go:115", after := #[{ on := 11, ground := Ground.data }, { on := 10, ground := Ground.chain }], guard := none }) (v := ?_) rfl (by kernel_rfl) (by kernel_rfl) (by kernel_rfl) (fun _ _ _ h => h) (Or.inl ⟨by rfl, ?_⟩) (by assumption) ?_; rotate_left; (focus (intro w hSw; (try dsimp only at hSw); go_simp; (try with_reducible rfl))); (try simp only [Act.put, List.setIfInBounds_toArray, List.set_cons_zero, List.set_cons_succ]))
    (refine wpAnyH_take (i := 13) (oi := { dst := some 63, op := Op.load 25 (Operand.tmp 7), type := 25, pos := "law1.go:115", after := #[{ on := 12, ground := Ground.guard }], guard := some (12, true) }) (v := ?_) rfl (by kernel_rfl) (by kernel_rfl) (by kernel_rfl) (fun _ _ _ h => h) (Or.inl ⟨by rfl, ?_⟩) (by assumption) ?_; rotate_left; (focus (intro w hSw; (try dsimp only at hSw); go_simp; (try with_reducible rfl))); (try simp only [Act.put, List.setIfInBounds_toArray, List.set_cons_zero, List.set_cons_succ]))
    (refine wpAnyH_take (i := 14) (oi := { dst := some 64, op := Op.load 25 (Operand.tmp 2), type := 25, pos := "law1.go:115", after := #[{ on := 12, ground := Ground.guard }], guard := some (12, true) }) (v := ?_) rfl (by kernel_rfl) (by kernel_rfl) (by kernel_rfl) (fun _ _ _ h => h) (Or.inl ⟨by rfl, ?_⟩) (by assumption) ?_; rotate_left; (focus (intro w hSw; (try dsimp only at hSw); go_simp; (try with_reducible rfl))); (try simp only [Act.put, List.setIfInBounds_toArray, List.set_cons_zero, List.set_cons_succ]))
    (refine wpAnyH_take (i := 15) (oi := { dst := some 65, op := Op.move (Operand.tmp 1), type := 38, pos := "law1.go:115", after := #[{ on := 12, ground := Ground.guard }], guard := some (12, true) }) (v := ?_) rfl (by kernel_rfl) (by kernel_rfl) (by kernel_rfl) (fun _ _ _ h => h) (Or.inl ⟨by rfl, ?_⟩) (by assumption) ?_; rotate_left; (focus (intro w hSw; (try dsimp only at hSw); go_simp; (try with_reducible rfl))); (try simp only [Act.put, List.setIfInBounds_toArray, List.set_cons_zero, List.set_cons_succ]))
    (refine wpAnyH_ready (rs := [16]) (by kernel_rfl) (by simp) ?_; refine AllReadyH.cons (o := { dst := some 66, op := Op.call { callee := Callee.value (Operand.func 23), args := #[Operand.tmp 64, Operand.tmp 65], argTypes := #[25, 38] }, type := 25, pos := "law1.go:115", after := #[{ on := 14, ground := Ground.data }, { on := 15, ground := Ground.data }, { on := 12, ground := Ground.chain }, { on := 12, ground := Ground.guard }], guard := some (12, true) }) rfl (fun K hK => ?_) AllReadyH.nil; go_simp; (go_at_call 23; refine (refDrop_any p A c l _ (a1.all hb) hok ((hl.below hb).more hb.size) hlm).mono ?_; rintro e w' ⟨pd, rfl, od, ed, hs⟩); replace hb := hb.trans (hs.mono hb.size); clear hs; go_wp2_with fail; refine hK.out _ _ (hS.out _ hb) (fun hHeld => ?_); clear hK K; (try simp only [Act.put, List.setIfInBounds_toArray, List.set_cons_zero, List.set_cons_succ]))
    (refine wpAnyH_ready (rs := [17]) (by kernel_rfl) (by simp) ?_; refine AllReadyH.cons (o := { dst := some 67, op := Op.call { callee := Callee.value (Operand.func 11), args := #[Operand.tmp 63, Operand.tmp 66], argTypes := #[25, 25] }, type := 4, pos := "law1.go:115", after := #[{ on := 13, ground := Ground.data }, { on := 16, ground := Ground.data }, { on := 16, ground := Ground.chain }, { on := 12, ground := Ground.guard }], guard := some (12, true) }) rfl (fun K hK => ?_) AllReadyH.nil; go_simp; (go_at_call 11; refine (samePart_any p7 pd _ (a7.all hb) od.at_).mono ?_; rintro e w' ⟨he, hs⟩; rw [decide_eq_true (e7.trans ed.symm)] at he; subst he); replace hb := hb.trans (hs.mono hb.size); clear hs; go_wp2_with fail; refine hK.out _ _ (hS.out _ hb) (fun hHeld => ?_); clear hK K; (try simp only [Act.put, List.setIfInBounds_toArray, List.set_cons_zero, List.set_cons_succ]))
    (refine wpAnyH_take (i := 18) (oi := { dst := some 68, op := Op.pick (Operand.tmp 62) (Operand.tmp 67) (Operand.const (Value.bool false)), type := 4, pos := "law1.go:115", after := #[{ on := 12, ground := Ground.data }, { on := 17, ground := Ground.data }], guard := none }) (v := ?_) rfl (by kernel_rfl) (by kernel_rfl) (by kernel_rfl) (fun _ _ _ h => h) (Or.inl ⟨by rfl, ?_⟩) (by assumption) ?_; rotate_left; (focus (intro w hSw; (try dsimp only at hSw); go_simp; (try with_reducible rfl))); (try simp only [Act.put, List.setIfInBounds_toArray, List.set_cons_zero, List.set_cons_succ]))
    (refine wpAnyH_take (i := 19) (oi := { dst := some 4, op := Op.assign (Operand.tmp 68), type := 4, pos := "law1.go:115", after := #[{ on := 18, ground := Ground.data }, { on := 17, ground := Ground.chain }, { on := 0, ground := Ground.phase }, { on := 1, ground := Ground.phase }, { on := 2, ground := Ground.phase }, { on := 3, ground := Ground.phase }, { on := 4, ground := Ground.phase }, { on := 5, ground := Ground.phase }, { on := 6, ground := Ground.phase }, { on := 7, ground := Ground.phase }, { on := 8, ground := Ground.phase }, { on := 9, ground := Ground.phase }, { on := 10, ground := Ground.phase }, { on := 11, ground := Ground.phase }, { on := 12, ground := Ground.phase }, { on := 13, ground := Ground.phase }, { on := 14, ground := Ground.phase }, { on := 15, ground := Ground.phase }, { on := 16, ground := Ground.phase }, { on := 17, ground := Ground.phase }, { on := 18, ground := Ground.phase }], guard := none }) (v := ?_) rfl (by kernel_rfl) (by kernel_rfl) (by kernel_rfl) (fun _ _ _ h => h) (Or.inl ⟨by rfl, ?_⟩) (by assumption) ?_; rotate_left; (focus (intro w hSw; (try dsimp only at hSw); go_simp; (try with_reducible rfl))); (try simp only [Act.put, List.setIfInBounds_toArray, List.set_cons_zero, List.set_cons_succ]))
    refine wpAnyH_done (by kernel_rfl) ?_ _
    go_wp2
    go_ret
    exact ⟨ret_val rfl, hB.trans (hb.mono hB.size)⟩
  · have hv := hv0 hc
    have hD := dropRes_bad (l := l) hc
    subst hv
    clear hv0 hv1
    have e0 : (ckPart p.er == 0) = false := by simpa using hc
    obtain ⟨E, hE⟩ : ∃ E, ckPart p.er = E := ⟨_, rfl⟩
    rw [hE] at hD e0 ⊢
    have e1 : (E != 0) = true := by simp only [bne, e0]; rfl
    have e2 : (E == E) = true := by simp
    have q0 := k1.cell 0
    have q1 := k1.cell 1
    go_wp2_with fail
    refine (dropOut_any p A c l w1 a1 hl hlm).mono ?_
    rintro e w2 ⟨p7, rfl, o7, e7, hs2⟩
    rw [hD] at e7 ⊢
    clear q0 q1 hD
    go_upto_region 3 with (fail)
    have hs := hs2.alloc hs2.size (.cells #[.slice (p7).fa (p7).frs.length (p7).fc, .slice (p7).da (p7).dfs.length (p7).dc] 25)
    have k7 := Blk.new w2 25 #[.slice p7.fa p7.frs.length p7.fc, .slice p7.da p7.dfs.length p7.dc]
    have a7 := (o7.alloc (.cells #[.slice (p7).fa (p7).frs.length (p7).fc, .slice (p7).da (p7).dfs.length (p7).dc] 25)).at_
    obtain ⟨g7, hg7⟩ : ∃ g, g = w2.heap.size := ⟨_, rfl⟩
    obtain ⟨W, hW⟩ : ∃ W', W' = w2.alloc (.cells #[.slice (p7).fa (p7).frs.length (p7).fc, .slice (p7).da (p7).dfs.length (p7).dc] 25) := ⟨_, rfl⟩
    rw [← hg7] at k7 ⊢
    rw [← hW] at hs k7 a7 ⊢
    clear hW hg7 hs2 o7
    replace k1 := k1.all hs
    replace a1 := a1.all hs
    replace hB := hB.trans (hs.mono hB.size)
    clear hs
    have q0 := k1.cell 0
    have q1 := k1.cell 1
    go_wp2_with fail
    refine (refCheck_any p W a1).mono ?_
    rintro e w3 ⟨rfl, hs⟩
    rw [hE]
    clear q0 q1 hE
    replace k7 := k7.all hs
    replace a7 := a7.all hs
    replace hB := hB.trans (hs.mono hB.size)
    clear hs k1 a1
    go_wp2_with fail
    refine (spliced_any w3).mono ?_
    rintro e w4 ⟨rfl, hs⟩
    replace k7 := k7.all hs
    replace a7 := a7.all hs
    replace hB := hB.trans (hs.mono hB.size)
    clear hs
    go_wp2_with fail
    refine (spliced_any w4).mono ?_
    rintro e w5 ⟨rfl, hs⟩
    replace k7 := k7.all hs
    replace a7 := a7.all hs
    replace hB := hB.trans (hs.mono hB.size)
    clear hs
    have q0 := k7.cell 0
    have q1 := k7.cell 1
    go_wp2_with fail
    refine (samePart_any p7 ⟨[], [], none, 0, none, 0⟩ w5 a7 (nil_own w5 w5.heap.size).at_).mono ?_
    rintro e w6 ⟨he, hs⟩
    rw [decide_eq_true (show p7.er = PtM.er ⟨[], [], none, 0, none, 0⟩ from e7)] at he
    subst he
    go_wp2
    go_ret
    exact ⟨ret_val rfl, hB.trans (hs.mono hB.size)⟩
end Go.Proofs.YtkkjfjbkhafaiaaDoor
