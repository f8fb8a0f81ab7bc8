/- ropewalkref.LeavesOf, CheckPlan: what they compute. -/
import Derived.Test.YtokiekachlmigaaDoorPlanRef
import Derived.Test.YtokiekachlmigaaDoorSortIP
import Derived.Test.YtokiekachlmigaaDoorPlB
import Derived.Test.YtokiekachlmigaaDoorApp
import Derived.Test.YtokiekachlmigaaDoorBC
import Derived.Test.YtokiekachlmigaaDoorHdB
import Derived.BigGuardPart
import Derived.Sort.OwnSortedInts
import Derived.Shelf.Slices.In.SortNone
import Derived.Lib.OwnBridge
set_option linter.all false
namespace Go.Proofs.YtokiekachlmigaaDoor
open Go.RowKit Go.Shelf Go.Sort

theorem Tryd.infoIntsR : (Tryd.prog.info? 3).map (fun i => (i.zero, i.size, i.bytes)) = some (some (.int .i64 0), 1, 8) := by kernel_rfl
theorem ints_oneR (l : List Int) : ∀ u ∈ intsV l, u.oneCell' = true := by
  intro u hu
  obtain ⟨n, _, rfl⟩ := List.mem_map.1 hu
  rfl
def sortI (l : List Int) : List Int := l.mergeSort fun x y => decide (x ≤ y)
theorem sortI_len (l : List Int) : (sortI l).length = l.length := by simp [sortI]
theorem sortI_perm (l : List Int) : (sortI l).Perm l := List.mergeSort_perm l _
theorem sortI_sorted (l : List Int) : (sortI l).Pairwise fun a b => a ≤ b := by
  have := List.pairwise_mergeSort (le := fun x y : Int => decide (x ≤ y)) (by intro a b c h1 h2; simp only [decide_eq_true_eq] at *; omega) (by intro a b; simp only [Bool.or_eq_true, decide_eq_true_eq]; omega) l
  exact this.imp (by intro a b h; simpa using h)
theorem sortI_own {w : World} {base n : Nat} {v : Value} {l : List Int} (h : w.ownsRow base 3 1 v n (intsV l)) (hn : n < 4611686018427387904) :
    Calls Tryd.prog 87 #[v] w fun e w' => e = .returned (.tuple #[]) ∧ w'.ownsRow base 3 1 v n (intsV (sortI l)) ∧ w.grownBy w' v.ownBlock := by
  by_cases hv : v = .slice none 0 0
  · subst hv
    refine (Any.slices_Sort_int_none Tryd.laysSortI none 0 w).mono ?_
    rintro e w' ⟨rfl, rfl⟩
    have hl : l = [] := by
      rcases h.2 with ⟨_, h0⟩ | ⟨g, cap, cur, h0, _⟩
      · have := h.1
        cases l with
        | nil => rfl
        | cons a r => simp [intsV] at h0 this; omega
      · cases h0
    subst hl
    exact ⟨rfl, by rw [show sortI [] = [] from by simp [sortI]]; exact h, ⟨rfl, rfl, rfl, Nat.le_refl _, fun _ _ _ => rfl⟩⟩
  · obtain ⟨g, cap, rfl, hb, hg, hnc, hcm, hlen, hH⟩ := Lib.holds_of_ownsRow (enc := Value.int .i64) h hv
    rcases h.2 with ⟨e0, _⟩ | ⟨g', cap', cur, e0, hb', hg', hn', hm', hs', ht'⟩
    · cases e0
    · injection e0 with e1 _ e3
      injection e1 with e1
      injection e1 with e1
      subst e1
      subst e3
      have hc := Any.slices_Sort_int Tryd.laysSortI g 0 cap l w hH hg (by omega)
      rw [hlen] at hc
      refine hc.mono ?_
      rintro e w' ⟨rfl, k, os, rfl⟩
      refine ⟨rfl, ?_, grownBy_sortedI _⟩
      have hs := ownsRow_sortedI (n := k) (os := os) (ts := l.mergeSort fun x y => decide (x ≤ y)) (ss := l) (by simp) hb' hg' (by omega) hm' hs'
      rw [hlen] at hs
      exact hs

set_option maxHeartbeats 8000000 in
set_option maxRecDepth 100000 in
theorem leavesOf_any (A : Option Addr) (c : Nat) (l : List Nd) (parts : Int) (hf : Falls l parts) (hm : l.length ≤ 23) : ∀ i : Nat, i < l.length → ∀ (w : World), Reads w w.heap.size 3 A l.length (ndCells l) →
    Calls Tryd.prog 88 #[.slice A l.length c, .int .i64 i] w fun e w' => ∃ v, e = .returned v ∧ w'.ownsRow w.heap.size 3 1 v (leavesL l i).length (intsV (leavesL l i)) ∧ Below w.heap.size w w' := by
  intro i
  induction i using Nat.strongRecOn with
  | _ i ih =>
    intro hi w h
    obtain ⟨i0, hi0, hz0, hz1, hz2⟩ := info_parts Tryd.infoIntsR
    obtain ⟨x, hx⟩ : ∃ x, l[i]? = some x := ⟨_, List.getElem?_eq_getElem hi⟩
    obtain ⟨b, off, rfl, bl, c0, c1, c2⟩ := nd_cells h hx
    have i1 : (i : Int) < (l.length : Int) := by omega
    by_cases h0 : 0 ≤ x.leaf
    · have t0 : decide (0 ≤ x.leaf) = true := decide_eq_true h0
      have HL := Lib.hid (leavesL_leaf hx h0)
      clear hx h0
      go_enter Tryd.func88, Tryd.ntmps88
      go_wp2
      go_ret
      have ho : (w.alloc (.cells #[.int .i64 x.leaf] 3)).ownsRow w.heap.size 3 1 (.slice (some ⟨w.heap.size, 0, none⟩) 1 1) 1 (intsV [x.leaf]) := own_of_blk (Blk.new w 3 #[.int .i64 x.leaf]) (Nat.le_refl _) rfl (by decide)
      exact ⟨_, rfl, by rw [HL.out]; exact ho, by (repeat' (first | exact Below.refl _ _ | assumption | refine Below.setCell ?_ (by first | omega | exact Below.size (by assumption) | (simp; done) | (simp; omega)) _ | refine Below.alloc ?_ (by first | omega | exact Below.size (by assumption) | (simp; done) | (simp; omega)) _ | refine Below.drew ?_ | refine below_drewN ?_ _))⟩
    · have t0 : decide (0 ≤ x.leaf) = false := decide_eq_false h0
      have h1 := hf i x hx
      unfold Nd.bad at h1
      rw [if_neg h0] at h1
      obtain ⟨a, ha⟩ : ∃ a : Nat, x.left = a := ⟨x.left.toNat, by omega⟩
      obtain ⟨d, hd⟩ : ∃ d : Nat, x.right = d := ⟨x.right.toNat, by omega⟩
      have hai : a < i := by omega
      have hdi : d < i := by omega
      have HL := Lib.hid (leavesL_node hx (by omega) ha hd hai hdi)
      have pw : ∀ j, j < 23 → 2 ^ j ≤ 4194304 := fun j hj => Nat.le_trans (Nat.pow_le_pow_right (by omega) (show j ≤ 22 by omega)) (by decide)
      have hla : (leavesL l a).length ≤ 4194304 := Nat.le_trans (leavesL_len hf a) (pw a (by omega))
      have hld : (leavesL l d).length ≤ 4194304 := Nat.le_trans (leavesL_len hf d) (pw d (by omega))
      rw [ha] at c1
      rw [hd] at c2
      obtain ⟨La, hLa⟩ : ∃ L, leavesL l a = L := ⟨_, rfl⟩
      obtain ⟨Ld, hLd⟩ : ∃ L, leavesL l d = L := ⟨_, rfl⟩
      have HLA := Lib.hid hLa
      have HLD := Lib.hid hLd
      rw [hLa] at hla HL
      rw [hLd] at hld HL
      clear hx h1 ha hd hLa hLd pw
      go_enter Tryd.func88, Tryd.ntmps88
      go_upto_region 3 with (fail)
      clear c0
      have hS : Hid (∀ w', Below w.heap.size w w' → (w'.cell? ⟨b, off + i * 3 + 1, none⟩ = some (.int .i64 a) ∧ w'.cell? ⟨b, off + i * 3 + 2, none⟩ = some (.int .i64 d))) :=
        fun w' hx => ⟨(hx.cell (p := ⟨b, off + i * 3 + 1, none⟩) bl).trans c1, (hx.cell (p := ⟨b, off + i * 3 + 2, none⟩) bl).trans c2⟩
      have hbv := (Below.refl w.heap.size w).drew
      refine wp_region_late (S := (fun w' => w'.cell? ⟨b, off + i * 3 + 1, none⟩ = some (.int .i64 a) ∧ w'.cell? ⟨b, off + i * 3 + 2, none⟩ = some (.int .i64 d))) [14, 15] (by kernel_rfl) (hS.out _ hbv) (fun hHeld => ?_)
      obtain ⟨wv, hwv⟩ : ∃ x, x = w.drew := ⟨_, rfl⟩
      rw [← hwv] at hbv hHeld ⊢
      clear hwv c1 c2 t0
      (refine wpAnyLT_take (i := 0) (oi := { dst := some 17, op := Op.move (Operand.tmp 0), type := 70, pos := "images.go:263", after := #[], guard := none }) (v := ?_) rfl (by kernel_rfl) (by kernel_rfl) (by kernel_rfl) (fun _ _ _ h => h) (Or.inl ⟨by rfl, ?_⟩) (by assumption) (by kernel_rfl) (by rfl) (by kernel_rfl) ?_; rotate_left; (focus (intro w hSw; (try dsimp only at hSw); go_simp; (try with_reducible rfl))); (try simp only [Act.put, List.setIfInBounds_toArray, List.set_cons_zero, List.set_cons_succ]))
      (refine wpAnyLT_take (i := 1) (oi := { dst := some 18, op := Op.move (Operand.tmp 0), type := 70, pos := "images.go:263", after := #[], guard := none }) (v := ?_) rfl (by kernel_rfl) (by kernel_rfl) (by kernel_rfl) (fun _ _ _ h => h) (Or.inl ⟨by rfl, ?_⟩) (by assumption) (by kernel_rfl) (by rfl) (by kernel_rfl) ?_; rotate_left; (focus (intro w hSw; (try dsimp only at hSw); go_simp; (try with_reducible rfl))); (try simp only [Act.put, List.setIfInBounds_toArray, List.set_cons_zero, List.set_cons_succ]))
      (refine wpAnyLT_take (i := 2) (oi := { dst := some 19, op := Op.move (Operand.tmp 1), type := 3, pos := "images.go:263", after := #[], guard := none }) (v := ?_) rfl (by kernel_rfl) (by kernel_rfl) (by kernel_rfl) (fun _ _ _ h => h) (Or.inl ⟨by rfl, ?_⟩) (by assumption) (by kernel_rfl) (by rfl) (by kernel_rfl) ?_; rotate_left; (focus (intro w hSw; (try dsimp only at hSw); go_simp; (try with_reducible rfl))); (try simp only [Act.put, List.setIfInBounds_toArray, List.set_cons_zero, List.set_cons_succ]))
      (refine wpAnyLT_take (i := 3) (oi := { dst := some 20, op := Op.indexAddr 70 (Operand.tmp 18) (Operand.tmp 19), type := 0, pos := "images.go:263", after := #[{ on := 1, ground := Ground.data }, { on := 2, ground := Ground.data }], guard := none }) (v := ?_) rfl (by kernel_rfl) (by kernel_rfl) (by kernel_rfl) (fun _ _ _ h => h) (Or.inl ⟨by rfl, ?_⟩) (by assumption) (by kernel_rfl) (by rfl) (by kernel_rfl) ?_; rotate_left; (focus (intro w hSw; (try dsimp only at hSw); go_simp; (try with_reducible rfl))); (try simp only [Act.put, List.setIfInBounds_toArray, List.set_cons_zero, List.set_cons_succ]))
      (refine wpAnyLT_take (i := 4) (oi := { dst := some 21, op := Op.fieldAddr 80 (Operand.tmp 20) 1, type := 0, pos := "images.go:263", after := #[{ on := 3, ground := Ground.data }], guard := none }) (v := ?_) rfl (by kernel_rfl) (by kernel_rfl) (by kernel_rfl) (fun _ _ _ h => h) (Or.inl ⟨by rfl, ?_⟩) (by assumption) (by kernel_rfl) (by rfl) (by kernel_rfl) ?_; rotate_left; (focus (intro w hSw; (try dsimp only at hSw); go_simp; (try with_reducible rfl))); (try simp only [Act.put, List.setIfInBounds_toArray, List.set_cons_zero, List.set_cons_succ]))
      (refine wpAnyLT_take (i := 5) (oi := { dst := some 22, op := Op.load 3 (Operand.tmp 21), type := 3, pos := "images.go:263", after := #[{ on := 4, ground := Ground.data }], guard := none }) (v := ?_) rfl (by kernel_rfl) (by kernel_rfl) (by kernel_rfl) (fun _ _ _ h => h) (Or.inl ⟨by rfl, ?_⟩) (by assumption) (by kernel_rfl) (by rfl) (by kernel_rfl) ?_; rotate_left; (focus (intro w hSw; (try dsimp only at hSw); go_simp; (try with_reducible rfl))); (try simp only [Act.put, List.setIfInBounds_toArray, List.set_cons_zero, List.set_cons_succ]))
      (refine wpAnyLT_take (i := 7) (oi := { dst := some 24, op := Op.move (Operand.tmp 0), type := 70, pos := "images.go:263", after := #[], guard := none }) (v := ?_) rfl (by kernel_rfl) (by kernel_rfl) (by kernel_rfl) (fun _ _ _ h => h) (Or.inl ⟨by rfl, ?_⟩) (by assumption) (by kernel_rfl) (by rfl) (by kernel_rfl) ?_; rotate_left; (focus (intro w hSw; (try dsimp only at hSw); go_simp; (try with_reducible rfl))); (try simp only [Act.put, List.setIfInBounds_toArray, List.set_cons_zero, List.set_cons_succ]))
      (refine wpAnyLT_take (i := 8) (oi := { dst := some 25, op := Op.move (Operand.tmp 0), type := 70, pos := "images.go:263", after := #[], guard := none }) (v := ?_) rfl (by kernel_rfl) (by kernel_rfl) (by kernel_rfl) (fun _ _ _ h => h) (Or.inl ⟨by rfl, ?_⟩) (by assumption) (by kernel_rfl) (by rfl) (by kernel_rfl) ?_; rotate_left; (focus (intro w hSw; (try dsimp only at hSw); go_simp; (try with_reducible rfl))); (try simp only [Act.put, List.setIfInBounds_toArray, List.set_cons_zero, List.set_cons_succ]))
      (refine wpAnyLT_take (i := 9) (oi := { dst := some 26, op := Op.move (Operand.tmp 1), type := 3, pos := "images.go:263", after := #[], guard := none }) (v := ?_) rfl (by kernel_rfl) (by kernel_rfl) (by kernel_rfl) (fun _ _ _ h => h) (Or.inl ⟨by rfl, ?_⟩) (by assumption) (by kernel_rfl) (by rfl) (by kernel_rfl) ?_; rotate_left; (focus (intro w hSw; (try dsimp only at hSw); go_simp; (try with_reducible rfl))); (try simp only [Act.put, List.setIfInBounds_toArray, List.set_cons_zero, List.set_cons_succ]))
      (refine wpAnyLT_take (i := 10) (oi := { dst := some 27, op := Op.indexAddr 70 (Operand.tmp 25) (Operand.tmp 26), type := 0, pos := "images.go:263", after := #[{ on := 8, ground := Ground.data }, { on := 9, ground := Ground.data }], guard := none }) (v := ?_) rfl (by kernel_rfl) (by kernel_rfl) (by kernel_rfl) (fun _ _ _ h => h) (Or.inl ⟨by rfl, ?_⟩) (by assumption) (by kernel_rfl) (by rfl) (by kernel_rfl) ?_; rotate_left; (focus (intro w hSw; (try dsimp only at hSw); go_simp; (try with_reducible rfl))); (try simp only [Act.put, List.setIfInBounds_toArray, List.set_cons_zero, List.set_cons_succ]))
      (refine wpAnyLT_take (i := 11) (oi := { dst := some 28, op := Op.fieldAddr 80 (Operand.tmp 27) 2, type := 0, pos := "images.go:263", after := #[{ on := 10, ground := Ground.data }], guard := none }) (v := ?_) rfl (by kernel_rfl) (by kernel_rfl) (by kernel_rfl) (fun _ _ _ h => h) (Or.inl ⟨by rfl, ?_⟩) (by assumption) (by kernel_rfl) (by rfl) (by kernel_rfl) ?_; rotate_left; (focus (intro w hSw; (try dsimp only at hSw); go_simp; (try with_reducible rfl))); (try simp only [Act.put, List.setIfInBounds_toArray, List.set_cons_zero, List.set_cons_succ]))
      (refine wpAnyLT_take (i := 12) (oi := { dst := some 29, op := Op.load 3 (Operand.tmp 28), type := 3, pos := "images.go:263", after := #[{ on := 11, ground := Ground.data }], guard := none }) (v := ?_) rfl (by kernel_rfl) (by kernel_rfl) (by kernel_rfl) (fun _ _ _ h => h) (Or.inl ⟨by rfl, ?_⟩) (by assumption) (by kernel_rfl) (by rfl) (by kernel_rfl) ?_; rotate_left; (focus (intro w hSw; (try dsimp only at hSw); go_simp; (try with_reducible rfl))); (try simp only [Act.put, List.setIfInBounds_toArray, List.set_cons_zero, List.set_cons_succ]))
      (refine wpAnyL_ready (rs := [6]) (by kernel_rfl) (by simp) ?_; refine List.forall_mem_cons.2 ⟨?_, fun _ h => by cases h⟩)
      (refine stepL (o := { dst := some 23, op := Op.call { callee := Callee.value (Operand.func 88), args := #[Operand.tmp 17, Operand.tmp 22], argTypes := #[70, 3] }, type := 47, pos := "images.go:263", after := #[{ on := 0, ground := Ground.data }, { on := 5, ground := Ground.data }], guard := none }) rfl (fun K hK => ?_); (try go_simp))
      (go_at_call 88; refine (ih a (by omega) (by omega) wv ((h.below hbv).more (hbv).size)).mono ?_; rintro e wa ⟨va, rfl, oa, hq⟩; have hba := (hbv).trans (hq.mono (hbv).size); replace oa := oa.mono (base' := w.heap.size) (hbv).size)
      rw [HLA.out] at oa
      obtain ⟨A1, c1, rfl, _, _⟩ := own_form oa
      (go_wp2_with fail; refine hK.out _ _ (hS.out _ hba) (fun hHeld => ?_); (clear hK K; (try simp only [Act.put, List.setIfInBounds_toArray, List.set_cons_zero, List.set_cons_succ])))
      clear hq
      (refine wpAnyL_ready (rs := [13]) (by kernel_rfl) (by simp) ?_; refine List.forall_mem_cons.2 ⟨?_, fun _ h => by cases h⟩)
      (refine stepL (o := { dst := some 30, op := Op.call { callee := Callee.value (Operand.func 88), args := #[Operand.tmp 24, Operand.tmp 29], argTypes := #[70, 3] }, type := 47, pos := "images.go:263", after := #[{ on := 7, ground := Ground.data }, { on := 12, ground := Ground.data }, { on := 6, ground := Ground.chain }], guard := none }) rfl (fun K hK => ?_); (try go_simp))
      (go_at_call 88; refine (ih d (by omega) (by omega) wa ((h.below hba).more (hba).size)).mono ?_; rintro e wb ⟨vb, rfl, o2, hq⟩; have hb2 := (hba).trans (hq.mono (hba).size); replace o2 := o2.mono (base' := w.heap.size) (hba).size)
      rw [HLD.out] at o2
      obtain ⟨A2, c2, rfl, _, _⟩ := own_form o2
      have o1 := own_all oa hq
      clear oa hq
      (go_wp2_with fail; refine hK.out _ _ (hS.out _ hb2) (fun hHeld => ?_); (clear hK K; (try simp only [Act.put, List.setIfInBounds_toArray, List.set_cons_zero, List.set_cons_succ])))
      (refine wpAnyL_ready (rs := [14]) (by kernel_rfl) (by simp) ?_; refine List.forall_mem_cons.2 ⟨?_, fun _ h => by cases h⟩)
      refine stepLate (o := { dst := some 31, op := Op.call { callee := Callee.builtin Builtin.append, args := #[Operand.tmp 23, Operand.tmp 30], argTypes := #[47, 47] }, type := 47, pos := "images.go:263", after := #[{ on := 6, ground := Ground.data }, { on := 13, ground := Ground.data }, { on := 13, ground := Ground.chain }], guard := none }) rfl (by rfl) (fun K hK => ?_)
      refine step_append_any _ rfl (.tmp 23) (.tmp 30) 47 rfl w.heap.size 3 i0 (.int .i64 0) 1 8 Tryd.underlying47 hi0 hz0 hz1 hz2 rfl (by decide) _ _ _ rfl o1 _ A2 Ld.length c2 (intsV Ld) rfl (Reads.of_own o2) (ints_oneR _) ?c2 ?c3 ?c4 ?_
      case c2 => unfold maxLen; omega
      case c3 => omega
      case c4 => exact hb2.size
      intro v7 w7 ho7 hg7 hor
      refine hK.out _ _ ?_
      (clear hK K; (try simp only [Act.put, List.setIfInBounds_toArray, List.set_cons_zero, List.set_cons_succ]))
      have hb7 := hb2.grown hg7 hb2.size (fun j hj => (o1.lt j hj).1)
      have ho : w7.ownsRow w.heap.size 3 1 v7 (leavesL l i).length (intsV (leavesL l i)) := by
        rw [HL.out, List.length_append, show intsV (La ++ Ld) = intsV La ++ intsV Ld by simp [intsV]]
        exact ho7
      clear hS hHeld ho7 hg7 hor o1 o2 hb2
      (refine wpAnyL_ready (rs := [15]) (by kernel_rfl) (by simp) ?_; refine List.forall_mem_cons.2 ⟨stepLate (o := { dst := some 4, op := Op.assign (Operand.tmp 31), type := 47, pos := "images.go:263", after := #[{ on := 14, ground := Ground.data }, { on := 14, ground := Ground.chain }, { on := 0, ground := Ground.phase }, { on := 1, ground := Ground.phase }, { on := 2, ground := Ground.phase }, { on := 3, ground := Ground.phase }, { on := 4, ground := Ground.phase }, { on := 5, ground := Ground.phase }, { on := 6, ground := Ground.phase }, { on := 7, ground := Ground.phase }, { on := 8, ground := Ground.phase }, { on := 9, ground := Ground.phase }, { on := 10, ground := Ground.phase }, { on := 11, ground := Ground.phase }, { on := 12, ground := Ground.phase }, { on := 13, ground := Ground.phase }, { on := 14, ground := Ground.phase }], guard := none }) rfl (by rfl) (fun K hK => ?_), fun _ h => by cases h⟩; go_simp; refine hK.out _ _ ?_; (clear hK K; (try simp only [Act.put, List.setIfInBounds_toArray, List.set_cons_zero, List.set_cons_succ])))
      refine wpAnyL_done (by kernel_rfl) ?_ _
      go_wp2
      go_ret
      exact ⟨_, rfl, ho, hb7⟩

section
variable {l : List Nd} {parts : Int}
theorem ckPlan_above (h : ¬ (parts < 1 ∨ 12 < parts)) (h1 : l.length ≤ 23) (h2 : l.length ≠ 0) (hf : Falls l parts) {S : List Int} (hp : S.Perm (aboveOf l)) (hs : S.Pairwise fun a b => a ≤ b) (hne : S ≠ iota 0 (l.length - 1)) : ckPlan l parts = 4 := by
  by_cases hr : ∀ i, i < l.length → refs l i = (if i + 1 < l.length then 1 else 0)
  · exact absurd ((above_iff hf (by omega) hp hs).2 hr) hne
  · obtain ⟨i, hi⟩ := Classical.not_forall.1 hr
    obtain ⟨hi1, hi2⟩ := Classical.not_imp.1 hi
    exact ckPlan_form h h1 h2 hf hi1 hi2
theorem ckPlan_order (h : ¬ (parts < 1 ∨ 12 < parts)) (h1 : l.length ≤ 23) (h2 : l.length ≠ 0) (hf : Falls l parts) {S : List Int} (hp : S.Perm (aboveOf l)) (hs : S.Pairwise fun a b => a ≤ b) (he : S = iota 0 (l.length - 1)) :
    (leavesL l (l.length - 1) = iota 0 parts.toNat → ckPlan l parts = 0) ∧ (leavesL l (l.length - 1) ≠ iota 0 parts.toNat → ckPlan l parts = 4) := by
  have hr := (above_iff hf (by omega) hp hs).1 he
  have hi := leaves_iff (l := l) (parts := parts) hf (by omega) (i := l.length - 1) (by omega)
  exact ⟨fun e => ckPlan_ok h h1 h2 hf hr (hi.1 e), fun e => ckPlan_leaves h h1 h2 hf hr (fun e2 => e (hi.2 e2))⟩
end
theorem cells_newR {w : World} {xs : Array Value} {t : TypeId} (j : Nat) (u : Value) (h : xs.toList[j]? = some u) : (w.alloc (.cells xs t)).cell? ((⟨w.heap.size, 0, none⟩ : Addr).add j) = some u := by
  have hb := Blk.new w t xs
  have := hb.cell j
  rw [add_none, Nat.zero_add, this, ← Array.getElem?_toList]
  exact h
theorem iota_ext {S : List Int} {n : Nat} (hl : S.length = n) (h : ∀ t : Nat, t < n → S[t]? = some (t : Int)) : S = iota 0 n := by
  refine List.ext_getElem? fun i => ?_
  by_cases hi : i < n
  · rw [h i hi, iota_get hi]; simp
  · rw [List.getElem?_eq_none (by omega), List.getElem?_eq_none (by rw [iota_len]; omega)]
theorem iota_not_short {S : List Int} {n j : Nat} (hj : j < n) (h : S.length ≤ j) : S ≠ iota 0 n := fun e => by have := congrArg List.length e; rw [iota_len] at this; omega
theorem iota_not_at {S : List Int} {n j : Nat} {y : Int} (hj : j < n) (h : S[j]? = some y) (hy : y ≠ j) : S ≠ iota 0 n := fun e => by
  rw [e, iota_get hj] at h
  injection h with h
  omega
theorem int_get {w : World} {B : Nat} {A : Option Addr} {l : List Int} (h : Reads w B 1 A l.length (intsV l)) {i : Nat} {y : Int} (hy : l[i]? = some y) : ∃ b off, A = some ⟨b, off, none⟩ ∧ b < B ∧ w.cell? ⟨b, off + i, none⟩ = some (.int .i64 y) := by
  obtain ⟨b, off, u, e, hb, hu, hc⟩ := h.at_ (List.getElem?_eq_some_iff.1 hy).1
  rw [show (intsV l)[i]? = some (.int .i64 y) by simp only [intsV, List.getElem?_map, hy]; rfl] at hu
  cases hu
  exact ⟨b, off, e, hb, hc⟩

set_option maxHeartbeats 16000000 in
set_option maxRecDepth 100000 in
theorem refPlan_any (A : Option Addr) (c : Nat) (l : List Nd) (parts : Int) (w : World) (h : Reads w w.heap.size 3 A l.length (ndCells l)) (hm : l.length ≤ 9223372036854775807) :
    Calls Tryd.prog 42 #[.slice A l.length c, .int .i64 parts] w fun e w' => e = .returned (.int .i64 (ckPlan l parts)) ∧ Below w.heap.size w w' := by
  by_cases hr : parts < 1 ∨ 12 < parts
  · have HR := Lib.hid (ckPlan_range (l := l) hr)
    go_enter Tryd.func42, Tryd.ntmps42
    go_wp2
    all_goals first
      | (go_ret; exact ⟨ret_int HR.out.symm, Below.refl _ _⟩)
      | (exfalso; omega)
  · have HR := Lib.hid hr
    have r0 : 1 ≤ parts := by omega
    have r1 : parts ≤ 12 := by omega
    have g1 : decide (parts < 1) = false := by simp; omega
    have g2 : decide (12 < parts) = false := by simp; omega
    clear hr
    by_cases h23 : 23 < l.length
    · have HM := Lib.hid (ckPlan_many HR.out (by omega : 23 < (l.length : Int)))
      go_enter Tryd.func42, Tryd.ntmps42
      go_wp2
      go_ret
      exact ⟨ret_int HM.out.symm, Below.refl _ _⟩
    · by_cases hz : l.length = 0
      · have HM := Lib.hid (ckPlan_none (l := l) HR.out hz)
        have hz' : ((l.length : Int) == 0) = true := beq_iff_eq.2 (by omega)
        have hz'' : l.length ≤ 0 := by omega
        clear hz
        go_enter Tryd.func42, Tryd.ntmps42
        go_wp2
        go_ret
        exact ⟨ret_int HM.out.symm, Below.refl _ _⟩
      · have HZ := Lib.hid hz
        have HT := Lib.hid (by omega : l.length ≤ 23)
        have hz' : ((l.length : Int) == 0) = false := beq_eq_false_iff_ne.2 (by omega)
        have hz'' : 1 ≤ l.length := by omega
        have hm' : l.length ≤ 23 := by omega
        obtain ⟨i0, hi0, hz0, hz1, hz2⟩ := info_parts Tryd.infoIntsR
        clear hz h23 g1 g2
        have g1 : decide (parts < 1) = false := decide_eq_false (by omega)
        have g2 : decide (12 < parts) = false := decide_eq_false (by omega)
        go_enter Tryd.func42, Tryd.ntmps42
        go_wp2
        clear g1 g2
        go_loopw [5, 25] (fun v i wr => ∃ k : Nat, k ≤ l.length ∧ i = .int .i64 k ∧ Hid (∀ j x, j < k → l[j]? = some x → ¬ x.bad j parts) ∧ wr.ownsRow w.heap.size 3 1 v (aboveOf (l.take k)).length (intsV (aboveOf (l.take k))) ∧ Below w.heap.size w wr) (fun _ i _ => l.length - (intOf i).toNat)
        case atStart => exact ⟨0, Nat.zero_le _, rfl, Lib.hid (fun j x hj => absurd hj (by omega)), World.ownsRow_nil _ _ _ _, Below.refl _ _⟩
        case round =>
          obtain ⟨k, hk, rfl, hgood, hown, hb⟩ := hrel
          obtain ⟨A5, c5, rfl, _, _⟩ := own_form hown
          have hal := above_len (l.take k)
          rw [List.length_take] at hal
          have hal' : (aboveOf (l.take k)).length ≤ 46 := by omega
          by_cases hlt : k < l.length
          · obtain ⟨x, hx⟩ : ∃ x, l[k]? = some x := ⟨_, List.getElem?_eq_getElem hlt⟩
            obtain ⟨b, off, hA, hb', c0, c1, c2⟩ := nd_cells (h.below hb) hx
            have HX := Lib.hid hx
            have HG : ¬ x.bad k parts → Hid (∀ j y, j < k + 1 → l[j]? = some y → ¬ y.bad j parts) := fun hn j y hj hy => by
              rcases Nat.lt_or_ge j k with hjk | hjk
              · exact hgood.out j y hjk hy
              · obtain rfl : j = k := by omega
                rw [HX.out] at hy; cases hy; exact hn
            have HAT := Lib.hid (above_take hx)
            rw [hA]
            clear hx hgood hal
            go_upto_region 11 with (fail)
            have kX := Blk.new wr 80 #[.int .i64 x.leaf, .int .i64 x.left, .int .i64 x.right]
            have hown2 := hown.alloc (.cells #[.int .i64 x.leaf, .int .i64 x.left, .int .i64 x.right] 80)
            have hb2 := hb.alloc hb.size (.cells #[.int .i64 x.leaf, .int .i64 x.left, .int .i64 x.right] 80)
            obtain ⟨gX, hgX⟩ : ∃ y, y = wr.heap.size := ⟨_, rfl⟩
            obtain ⟨w2, hw2⟩ : ∃ y, y = wr.alloc (.cells #[.int .i64 x.leaf, .int .i64 x.left, .int .i64 x.right] 80) := ⟨_, rfl⟩
            rw [← hgX] at kX ⊢
            rw [← hw2] at kX hown2 hb2 ⊢
            clear hw2 hgX hown hb c0 c1 c2
            have x0 := kX.cell 0
            have x1 := kX.cell 1
            have x2 := kX.cell 2
            clear kX
            by_cases h0 : 0 ≤ x.leaf
            · have t0 : decide (0 ≤ x.leaf) = true := decide_eq_true h0
              have t1 : decide (x.leaf < 0) = false := decide_eq_false (by omega)
              have t2 : decide (x.leaf < -1) = false := decide_eq_false (by omega)
              by_cases h1 : parts ≤ x.leaf
              · have t3 : decide (parts ≤ x.leaf) = true := decide_eq_true h1
                have HBAD := Lib.hid (Nd.bad_leaf (i := k) h0 (.inl h1))
                clear h0 h1
                (go_wp2; go_ret; exact ⟨ret_int (ckPlan_bad HR.out HT.out HZ.out HX.out (HBAD.out)).symm, by (repeat' (first | exact Below.refl _ _ | assumption | refine Below.setCell ?_ (by first | omega | exact Below.size (by assumption) | (simp; done) | (simp; omega)) _ | refine Below.alloc ?_ (by first | omega | exact Below.size (by assumption) | (simp; done) | (simp; omega)) _ | refine Below.drew ?_ | refine below_drewN ?_ _))⟩)
              · have t3 : decide (parts ≤ x.leaf) = false := decide_eq_false h1
                by_cases h2 : x.left = 0
                · have t4 : (x.left != 0) = false := by simpa using h2
                  by_cases h3 : x.right = 0
                  · have t5 : (x.right != 0) = false := by simpa using h3
                    have HG2 := HG (Nd.good_leaf h0 (by omega) h2 h3)
                    have HA2 : Hid (aboveOf (l.take (k + 1)) = aboveOf (l.take k)) := by show _ = _; rw [HAT.out]; unfold aboveF; rw [if_pos h0, List.append_nil]
                    clear h0 h1 h2 h3 HG
                    go_wp2
                    go_roundw
                    case rel => exact ⟨k + 1, by omega, by go_num, HG2, by rw [HA2.out]; exact hown2, hb2⟩
                    case measure => simp [intOf]; omega
                  · have t5 : (x.right != 0) = true := by simpa using h3
                    have HBAD := Lib.hid (Nd.bad_leaf (i := k) (parts := parts) h0 (.inr (.inr h3)))
                    clear h0 h1 h2 h3
                    (go_wp2; go_ret; exact ⟨ret_int (ckPlan_bad HR.out HT.out HZ.out HX.out (HBAD.out)).symm, by (repeat' (first | exact Below.refl _ _ | assumption | refine Below.setCell ?_ (by first | omega | exact Below.size (by assumption) | (simp; done) | (simp; omega)) _ | refine Below.alloc ?_ (by first | omega | exact Below.size (by assumption) | (simp; done) | (simp; omega)) _ | refine Below.drew ?_ | refine below_drewN ?_ _))⟩)
                · have t4 : (x.left != 0) = true := by simpa using h2
                  have HBAD := Lib.hid (Nd.bad_leaf (i := k) (parts := parts) h0 (.inr (.inl h2)))
                  clear h0 h1 h2
                  (go_wp2; go_ret; exact ⟨ret_int (ckPlan_bad HR.out HT.out HZ.out HX.out (HBAD.out)).symm, by (repeat' (first | exact Below.refl _ _ | assumption | refine Below.setCell ?_ (by first | omega | exact Below.size (by assumption) | (simp; done) | (simp; omega)) _ | refine Below.alloc ?_ (by first | omega | exact Below.size (by assumption) | (simp; done) | (simp; omega)) _ | refine Below.drew ?_ | refine below_drewN ?_ _))⟩)
            · have hn : x.leaf < 0 := by omega
              have t0 : decide (0 ≤ x.leaf) = false := decide_eq_false h0
              have t1 : decide (x.leaf < 0) = true := decide_eq_true hn
              have t3 : decide (parts ≤ x.leaf) = false := decide_eq_false (by omega)
              by_cases h1 : x.leaf < -1
              · have t2 : decide (x.leaf < -1) = true := decide_eq_true h1
                have HBAD := Lib.hid (Nd.bad_node (i := k) (parts := parts) hn (.inl (by omega)))
                clear h0 h1 hn
                (go_wp2; go_ret; exact ⟨ret_int (ckPlan_bad HR.out HT.out HZ.out HX.out (HBAD.out)).symm, by (repeat' (first | exact Below.refl _ _ | assumption | refine Below.setCell ?_ (by first | omega | exact Below.size (by assumption) | (simp; done) | (simp; omega)) _ | refine Below.alloc ?_ (by first | omega | exact Below.size (by assumption) | (simp; done) | (simp; omega)) _ | refine Below.drew ?_ | refine below_drewN ?_ _))⟩)
              · have t2 : decide (x.leaf < -1) = false := decide_eq_false h1
                by_cases h2 : x.left < 0
                · have t4 : decide (x.left < 0) = true := decide_eq_true h2
                  have HBAD := Lib.hid (Nd.bad_node (i := k) (parts := parts) hn (.inr (.inl h2)))
                  clear h0 h1 h2 hn
                  (go_wp2; go_ret; exact ⟨ret_int (ckPlan_bad HR.out HT.out HZ.out HX.out (HBAD.out)).symm, by (repeat' (first | exact Below.refl _ _ | assumption | refine Below.setCell ?_ (by first | omega | exact Below.size (by assumption) | (simp; done) | (simp; omega)) _ | refine Below.alloc ?_ (by first | omega | exact Below.size (by assumption) | (simp; done) | (simp; omega)) _ | refine Below.drew ?_ | refine below_drewN ?_ _))⟩)
                · have t4 : decide (x.left < 0) = false := decide_eq_false h2
                  by_cases h3 : (k : Int) ≤ x.left
                  · have t5 : decide ((k : Int) ≤ x.left) = true := decide_eq_true h3
                    have HBAD := Lib.hid (Nd.bad_node (i := k) (parts := parts) hn (.inr (.inr (.inl h3))))
                    clear h0 h1 h2 h3 hn
                    (go_wp2; go_ret; exact ⟨ret_int (ckPlan_bad HR.out HT.out HZ.out HX.out (HBAD.out)).symm, by (repeat' (first | exact Below.refl _ _ | assumption | refine Below.setCell ?_ (by first | omega | exact Below.size (by assumption) | (simp; done) | (simp; omega)) _ | refine Below.alloc ?_ (by first | omega | exact Below.size (by assumption) | (simp; done) | (simp; omega)) _ | refine Below.drew ?_ | refine below_drewN ?_ _))⟩)
                  · have t5 : decide ((k : Int) ≤ x.left) = false := decide_eq_false h3
                    by_cases h4 : x.right < 0
                    · have t6 : decide (x.right < 0) = true := decide_eq_true h4
                      have HBAD := Lib.hid (Nd.bad_node (i := k) (parts := parts) hn (.inr (.inr (.inr (.inl h4)))))
                      clear h0 h1 h2 h3 h4 hn
                      (go_wp2; go_ret; exact ⟨ret_int (ckPlan_bad HR.out HT.out HZ.out HX.out (HBAD.out)).symm, by (repeat' (first | exact Below.refl _ _ | assumption | refine Below.setCell ?_ (by first | omega | exact Below.size (by assumption) | (simp; done) | (simp; omega)) _ | refine Below.alloc ?_ (by first | omega | exact Below.size (by assumption) | (simp; done) | (simp; omega)) _ | refine Below.drew ?_ | refine below_drewN ?_ _))⟩)
                    · have t6 : decide (x.right < 0) = false := decide_eq_false h4
                      by_cases h5 : (k : Int) ≤ x.right
                      · have t7 : decide ((k : Int) ≤ x.right) = true := decide_eq_true h5
                        have HBAD := Lib.hid (Nd.bad_node (i := k) (parts := parts) hn (.inr (.inr (.inr (.inr h5)))))
                        clear h0 h1 h2 h3 h4 h5 hn
                        (go_wp2; go_ret; exact ⟨ret_int (ckPlan_bad HR.out HT.out HZ.out HX.out (HBAD.out)).symm, by (repeat' (first | exact Below.refl _ _ | assumption | refine Below.setCell ?_ (by first | omega | exact Below.size (by assumption) | (simp; done) | (simp; omega)) _ | refine Below.alloc ?_ (by first | omega | exact Below.size (by assumption) | (simp; done) | (simp; omega)) _ | refine Below.drew ?_ | refine below_drewN ?_ _))⟩)
                      · have t7 : decide ((k : Int) ≤ x.right) = false := decide_eq_false h5
                        have HG2 := HG (Nd.good_node (by omega) (by omega) (by omega) (by omega) (by omega))
                        have HA2 : Hid (aboveOf (l.take (k + 1)) = aboveOf (l.take k) ++ [x.left, x.right]) := by show _ = _; rw [HAT.out]; unfold aboveF; rw [if_neg h0]
                        clear h0 h1 h2 h3 h4 h5 hn HG
                        go_wp2_with (at_builtin
                                     refine wpList_append_own _ rfl (.tmp 83) (.tmp 88) 47 rfl w.heap.size 3 i0 (.int .i64 0) 1 8 Tryd.underlying47 hi0 hz0 hz1 hz2 rfl (by decide) _ _ _ rfl (hown2.alloc _) ⟨w2.heap.size, 0, none⟩ 2 2 [.int .i64 x.left, .int .i64 x.right] rfl rfl ?c1 ?c2 ?c3 ?c4 ?c5 ?_
                                     case c1 => exact fun j u hu => cells_newR j u hu
                                     case c2 => intro u hu; simp at hu; rcases hu with rfl | rfl <;> rfl
                                     case c3 => unfold maxLen; omega
                                     case c4 => omega
                                     case c5 => have := hb2.size; simp; omega
                                     intro v8 w8 hown8 hg8 _
                                     have hb8 := (hb2.alloc hb2.size (.cells #[.int .i64 x.left, .int .i64 x.right] 3)).grown hg8 (by have := hb2.size; simp; omega) (fun g hg' => (hown2.lt g hg').1))
                        go_roundw
                        case rel => exact ⟨k + 1, by omega, by go_num, HG2, by rw [HA2.out, List.length_append, show intsV (aboveOf (l.take k) ++ [x.left, x.right]) = intsV (aboveOf (l.take k)) ++ [.int .i64 x.left, .int .i64 x.right] by simp [intsV, intV]]; exact hown8, hb8⟩
                        case measure => simp [intOf]; omega
          · obtain rfl : k = l.length := by omega
            rw [List.take_length] at hown hal' ⊢
            have HF : Hid (Falls l parts) := fun j x hx => hgood.out j x (List.getElem?_eq_some_iff.1 hx).1 hx
            have HP : Hid ((sortI (aboveOf l)).Perm (aboveOf l)) := sortI_perm _
            have HSO : Hid ((sortI (aboveOf l)).Pairwise fun a b => a ≤ b) := sortI_sorted _
            have hsl := sortI_len (aboveOf l)
            obtain ⟨n, hn⟩ : ∃ n, (aboveOf l).length = n := ⟨_, rfl⟩
            obtain ⟨S, hS⟩ : ∃ S, sortI (aboveOf l) = S := ⟨_, rfl⟩
            rw [hS] at HP HSO hsl
            rw [hn] at hown hal' hsl ⊢
            have SO := Lib.hid (sortI_own hown (by omega))
            rw [hS] at SO
            have HSL := Lib.hid hsl
            clear hgood hal hn hS hsl
            go_wp2_with fail
            refine SO.out.mono ?_
            rintro e w2 ⟨rfl, hown2, hg2⟩
            have hb2 := hb.grown hg2 hb.size (fun j hj => (hown.lt j hj).1)
            have R2 : Reads w2 w2.heap.size 1 A5 n (intsV S) := Reads.of_own hown2
            obtain ⟨m, hm1⟩ : ∃ m, l.length = m + 1 := ⟨l.length - 1, by omega⟩
            have hw1 : IntKind.i64.wrap ((l.length : Int) - 1) = (m : Int) := by rw [IntKind.wrap_i64]; omega
            have hl2 := (h.below hb2).more hb2.size
            have hm22 : m ≤ 22 := by omega
            have HM1 := Lib.hid hm1
            have HFB : Hid (S ≠ iota 0 m → ckPlan l parts = 4) := fun hne => ckPlan_above HR.out HT.out HZ.out HF.out HP.out HSO.out (by rw [HM1.out]; exact hne)
            have HFO : Hid (S = iota 0 m → (leavesL l m = iota 0 parts.toNat → ckPlan l parts = 0) ∧ (leavesL l m ≠ iota 0 parts.toNat → ckPlan l parts = 4)) := fun he => by
              have := ckPlan_order HR.out HT.out HZ.out HF.out HP.out HSO.out (by rw [HM1.out]; exact he)
              rw [HM1.out] at this
              exact this
            obtain ⟨pn, hpn⟩ : ∃ pn : Nat, parts = pn := ⟨parts.toNat, by omega⟩
            have LV := Lib.hid (leavesOf_any A c l parts HF.out (by omega) m (by omega) w2 hl2)
            have hlv := leavesL_len HF.out m
            have hlv2 : (leavesL l m).length ≤ 4194304 := Nat.le_trans hlv (Nat.le_trans (Nat.pow_le_pow_right (by omega) hm22) (by decide))
            subst hpn
            clear SO hown hown2 hg2 hl2 hm1 hlv HF HP HSO hz' hz'' hb
            rw [Int.toNat_natCast] at HFO
            go_wp2
            go_loopw [96] (fun i wz => ∃ j : Nat, j ≤ m ∧ i = .int .i64 j ∧ Hid (∀ t : Nat, t < j → S[t]? = some (t : Int)) ∧ wz = w2) (fun i _ => m - (intOf i).toNat)
            case atStart => exact ⟨0, Nat.zero_le _, rfl, Lib.hid (fun t ht => absurd ht (by omega)), rfl⟩
            case round =>
              obtain ⟨j, hj, rfl, hpre, hwz⟩ := hrel
              subst hwz
              by_cases hlj : j < m
              · by_cases hjs : j < n
                · obtain ⟨y, hy⟩ : ∃ y, S[j]? = some y := ⟨_, List.getElem?_eq_getElem (by rw [HSL.out]; exact hjs)⟩
                  obtain ⟨b, off, hA, _, q0⟩ := int_get (by rw [HSL.out]; exact R2) hy
                  have t1 : decide ((n : Int) ≤ (j : Int)) = false := decide_eq_false (by omega)
                  have t1n : decide (n ≤ j) = false := decide_eq_false (by omega)
                  have i1 : (j : Int) < (n : Int) := by omega
                  rw [hA]
                  by_cases hyj : y = j
                  · have HPR : Hid (∀ t : Nat, t < j + 1 → S[t]? = some (t : Int)) := fun t ht => by
                      rcases Nat.lt_or_ge t j with h1 | h1
                      · exact hpre.out t h1
                      · obtain rfl : t = j := by omega
                        rw [hy, hyj]
                    have HA := Lib.hid hA
                    have t2 : (y != (j : Int)) = false := by simpa using hyj
                    clear hy hyj hA
                    go_wp2
                    go_roundw
                    case rel => exact ⟨j + 1, by omega, by go_num, HPR, by first | rfl | trivial⟩
                    case measure => simp [intOf]; omega
                  · have t2 : (y != (j : Int)) = true := by simpa using hyj
                    have HB := Lib.hid (HFB.out (iota_not_at hlj hy hyj))
                    clear hy hyj hA
                    go_wp2
                    go_ret
                    exact ⟨ret_int HB.out.symm, hb2⟩
                · have t1 : decide ((n : Int) ≤ (j : Int)) = true := decide_eq_true (by omega)
                  have t1n : decide (n ≤ j) = true := decide_eq_true (by omega)
                  have HB := Lib.hid (HFB.out (iota_not_short hlj (by rw [HSL.out]; omega)))
                  go_wp2
                  go_ret
                  exact ⟨ret_int HB.out.symm, hb2⟩
              · obtain rfl : j = m := by omega
                by_cases hnm : n = j
                · have t1 : ((n : Int) != (j : Int)) = false := by rw [hnm]; simp
                  have HSI : Hid (S = iota 0 j) := iota_ext (by rw [HSL.out]; exact hnm) hpre.out
                  have HO := Lib.hid (HFO.out HSI.out)
                  obtain ⟨O, hO⟩ : ∃ O, leavesL l j = O := ⟨_, rfl⟩
                  rw [hO] at HO LV hlv2
                  clear hnm hO HFB HFO
                  go_wp2_with fail
                  refine LV.out.mono ?_
                  rintro e w3 ⟨v, rfl, hown3, hb3⟩
                  obtain ⟨A9, c9, rfl, _, _⟩ := own_form hown3
                  have R3 := Reads.of_own hown3
                  have hbx := hb2.trans (hb3.mono hb2.size)
                  obtain ⟨no, hno⟩ : ∃ n, O.length = n := ⟨_, rfl⟩
                  rw [hno] at R3 hlv2 ⊢
                  have HNO := Lib.hid hno
                  clear hown3 hno LV hb3 R2
                  go_wp2
                  go_loopw [124] (fun i wz => ∃ t : Nat, t ≤ pn ∧ i = .int .i64 t ∧ Hid (∀ u : Nat, u < t → O[u]? = some (u : Int)) ∧ wz = w3) (fun i _ => pn - (intOf i).toNat)
                  case atStart => exact ⟨0, Nat.zero_le _, rfl, Lib.hid (fun t ht => absurd ht (by omega)), rfl⟩
                  case round =>
                    obtain ⟨t, ht, rfl, hpre3, hwz⟩ := hrel
                    subst hwz
                    by_cases hlt3 : t < pn
                    · by_cases hts : t < no
                      · obtain ⟨y, hy⟩ : ∃ y, O[t]? = some y := ⟨_, List.getElem?_eq_getElem (by rw [HNO.out]; exact hts)⟩
                        obtain ⟨b, off, hA, _, q0⟩ := int_get (by rw [HNO.out]; exact R3) hy
                        have t2 : decide ((no : Int) ≤ (t : Int)) = false := decide_eq_false (by omega)
                        have t2n : decide (no ≤ t) = false := decide_eq_false (by omega)
                        have i1 : (t : Int) < (no : Int) := by omega
                        rw [hA]
                        by_cases hyj : y = t
                        · have HPR : Hid (∀ u : Nat, u < t + 1 → O[u]? = some (u : Int)) := fun u hu => by
                            rcases Nat.lt_or_ge u t with h1 | h1
                            · exact hpre3.out u h1
                            · obtain rfl : u = t := by omega
                              rw [hy, hyj]
                          have HA := Lib.hid hA
                          have t3 : (y != (t : Int)) = false := by simpa using hyj
                          clear hy hyj hA
                          go_wp2
                          go_roundw
                          case rel => exact ⟨t + 1, by omega, by go_num, HPR, by first | rfl | trivial⟩
                          case measure => simp [intOf]; omega
                        · have t3 : (y != (t : Int)) = true := by simpa using hyj
                          have HB := Lib.hid (HO.out.2 (iota_not_at hlt3 hy hyj))
                          clear hy hyj hA
                          go_wp2
                          go_ret
                          exact ⟨ret_int HB.out.symm, hbx⟩
                      · have t2 : decide ((no : Int) ≤ (t : Int)) = true := decide_eq_true (by omega)
                        have t2n : decide (no ≤ t) = true := decide_eq_true (by omega)
                        have HB := Lib.hid (HO.out.2 (iota_not_short hlt3 (by rw [HNO.out]; omega)))
                        go_wp2
                        go_ret
                        exact ⟨ret_int HB.out.symm, hbx⟩
                    · obtain rfl : t = pn := by omega
                      by_cases hnp : no = t
                      · have t2 : ((no : Int) != (t : Int)) = false := by rw [hnp]; simp
                        have HB := Lib.hid (HO.out.1 (iota_ext (by rw [HNO.out]; exact hnp) hpre3.out))
                        clear hnp
                        go_wp2
                        go_ret
                        exact ⟨ret_int HB.out.symm, hbx⟩
                      · have t2 : ((no : Int) != (t : Int)) = true := bne_iff_ne.2 (by omega)
                        have HB := Lib.hid (HO.out.2 (fun e => hnp (by have := congrArg List.length e; rw [iota_len] at this; rw [← HNO.out]; exact this)))
                        clear hnp
                        go_wp2
                        go_ret
                        exact ⟨ret_int HB.out.symm, hbx⟩
                · have t1 : ((n : Int) != (j : Int)) = true := bne_iff_ne.2 (by omega)
                  have HB := Lib.hid (HFB.out (fun e => hnm (by have := congrArg List.length e; rw [iota_len] at this; rw [← HSL.out]; exact this)))
                  clear hnm
                  go_wp2
                  go_ret
                  exact ⟨ret_int HB.out.symm, hb2⟩
end Go.Proofs.YtokiekachlmigaaDoor
