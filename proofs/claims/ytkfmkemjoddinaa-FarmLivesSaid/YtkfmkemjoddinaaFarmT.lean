/- farm.finish: what it does. -/
import Derived.Test.YtkfmkemjoddinaaFarmR
import Derived.Test.YtkfmkemjoddinaaJoinW
import Derived.BigGuardPart
set_option linter.all false
namespace Go.Proofs.Ytkfmkemjoddinaa
open Go.RowKit
set_option maxRecDepth 100000

theorem ints_put (l : List Int) (j : Nat) (a : Int) : (intsV l).set j (.int .i64 a) = intsV (l.set j a) := by simp [intsV, intV, List.map_set]
/-- One worker's task written. -/
theorem FB.work {w : World} {base g gW j : Nat} {f : FrM} (h : FB w base g f) (hv : f.wa = some ⟨gW, 0, none⟩) (a : Int) : FB (w.setCell ⟨gW, j, none⟩ (.int .i64 a)) base g { f with wk := f.wk.set j a } := by
  have oW := h.own.wk
  rw [hv] at oW
  have s1 := oW.stored j (.int .i64 a)
  rw [ints_put] at s1
  have hlen : (f.wk.set j a).length = f.wk.length := List.length_set
  obtain ⟨cur, kW⟩ := own_cur' oW
  have hgW : g ≠ gW := fun e => by subst e; exact kW.ne_ h.blk (by decide) rfl
  exact ⟨by simpa only [hlen] using h.blk.far (p := ⟨gW, j, none⟩) hgW (.int .i64 a), h.own.work (wk := f.wk.set j a) hlen (by rw [hv]; exact s1.2) (by rw [hv]; exact s1.1), h.lo⟩
theorem finish_idle {f : Frm} {w : Int} (h : f.wk.getD w.toNat 0 < 0) : finishP f w = (f, 11) := by unfold finishP; simp only; rw [if_pos h]
theorem finish_leaf {f : Frm} {w : Int} {n : Nat} {x : Nd} (h : f.wk.getD w.toNat 0 = n) (hx : f.pl[n]? = some x) (hl : 0 ≤ x.leaf) :
    finishP f w = (sendP { f with wk := f.wk.set w.toNat (-1) } ⟨2, w, n, f.ps.getD x.leaf.toNat .nil⟩, 0) := by
  unfold finishP; simp only; rw [h, if_neg (by omega), Int.toNat_natCast, getD_of _ hx, if_pos hl]
theorem finish_wait {f : Frm} {w : Int} {n : Nat} {x : Nd} (h : f.wk.getD w.toNat 0 = n) (hx : f.pl[n]? = some x) (hl : ¬ 0 ≤ x.leaf) (hd : f.dn.getD x.left.toNat false = false ∨ f.dn.getD x.right.toNat false = false) :
    finishP f w = ({ f with wk := f.wk.set w.toNat (-1) }, 0) := by
  unfold finishP; simp only; rw [h, if_neg (by omega), Int.toNat_natCast, getD_of _ hx, if_neg hl, if_pos hd]
theorem finish_join {f : Frm} {w : Int} {n : Nat} {x : Nd} {p : Prt} (h : f.wk.getD w.toNat 0 = n) (hx : f.pl[n]? = some x) (hl : ¬ 0 ≤ x.leaf) (hd : ¬ (f.dn.getD x.left.toNat false = false ∨ f.dn.getD x.right.toNat false = false))
    (hj : joinP (f.hv.getD x.left.toNat .nil) (f.hv.getD x.right.toNat .nil) = (p, 0)) : finishP f w = (sendP { f with wk := f.wk.set w.toNat (-1) } ⟨2, w, n, p⟩, 0) := by
  unfold finishP; simp only; rw [h, if_neg (by omega), Int.toNat_natCast, getD_of _ hx, if_neg hl, if_neg hd, hj]; simp
theorem finish_fail {f : Frm} {w : Int} {n : Nat} {x : Nd} (h : f.wk.getD w.toNat 0 = n) (hx : f.pl[n]? = some x) (hl : ¬ 0 ≤ x.leaf) (hd : ¬ (f.dn.getD x.left.toNat false = false ∨ f.dn.getD x.right.toNat false = false))
    (hj : (joinP (f.hv.getD x.left.toNat .nil) (f.hv.getD x.right.toNat .nil)).2 ≠ 0) : finishP f w = ({ f with wk := f.wk.set w.toNat (-1) }, 0) := by
  unfold finishP; simp only; rw [h, if_neg (by omega), Int.toNat_natCast, getD_of _ hx, if_neg hl, if_neg hd, if_neg hj]
set_option maxHeartbeats 20000000 in
theorem finish_any (f : FrM) (j : Nat) (base g : Nat) (w : World) (h : FB w base g f) (hF : f.er.Fine) (hj : j < f.wk.length) :
    Calls Try.prog 51 #[.pointer (some ⟨g, 0, none⟩), .int .i64 (j : Int)] w (StepIs w base g (finishP f.er (j : Int))) := by
  unfold StepIs
  have n6 : f.wk.length ≤ 4 := hF.w4
  have n7 : f.nt.length ≤ 20 := by have := hF.ln; simp only [FrM.er, List.length_map] at this; omega
  have hlo := h.lo
  have hlt := h.lt
  obtain ⟨n, hn⟩ : ∃ n, f.wk[j]? = some n := ⟨_, List.getElem?_eq_getElem hj⟩
  have hgd : f.er.wk.getD (j : Int).toNat 0 = n := by rw [Int.toNat_natCast]; exact getD_of _ hn
  obtain ⟨gW, capW, hvW, hgW0, hgW1⟩ := h.own.wk.form (by omega)
  injection hvW with hvW _ hcW
  subst hcW
  have oW := h.own.wk
  rw [hvW] at oW
  have cW : w.cell? ⟨gW, j, none⟩ = some (.int .i64 n) := by
    rw [oW.cellAt j (by omega), intsV, List.getElem?_map, hn]; rfl
  have kF := h.blk
  rw [hvW] at kF
  have q6 := kF.cell 6
  have hj2 : (j : Int) < (f.wk.length : Int) := by omega
  have HGD := Lib.hid hgd
  have HVW := Lib.hid hvW
  by_cases hneg : n < 0
  · have HE := Lib.hid (finish_idle (by rw [hgd]; exact hneg))
    have hD : decide (n < 0) = true := decide_eq_true hneg
    clear hgd hvW hn hneg
    go_enter Try.func51, Try.ntmps51
    go_wp2
    go_ret
    exact ⟨ret_val (by rw [HE.out]; rfl), f, h, by rw [HE.out], Below.refl _ _, KF.refl _ _⟩
  · have hwk := hF.wk n (List.mem_of_getElem? hn)
    obtain ⟨i, rfl⟩ : ∃ i : Nat, n = i := ⟨n.toNat, by omega⟩
    have hil : i < f.pl.length := by have := hwk.2; show i < f.pl.length; have e : f.er.pl.length = f.pl.length := rfl; omega
    obtain ⟨x, hx⟩ : ∃ x, f.pl[i]? = some x := ⟨_, List.getElem?_eq_getElem hil⟩
    have hD : decide ((i : Int) < 0) = false := decide_eq_false (by omega)
    obtain ⟨bl, ol, eal, bll, hcl⟩ := cells_get Nd.cells_len (show Reads w w.heap.size 3 f.la f.pl.length (f.pl.flatMap Nd.cells) from Reads.of_own h.own.pl) hx
    have l0 := hcl 0 _ rfl
    have l1 := hcl 1 _ rfl
    have l2 := hcl 2 _ rfl
    rw [eal] at kF
    have q1 := kF.cell 1
    have hfalls := (ckPlan_zero hF.pl).2.2.2.2.1 i x hx
    have HX := Lib.hid hx
    have hil2 : (i : Int) < (f.pl.length : Int) := by omega
    have HF := Lib.hid hF
    clear hgd hvW hn hneg hcl eal hx hwk hF
    rw [Nat.add_zero] at l0
    go_enter Try.func51, Try.ntmps51
    go_upto_region 5 with (fail)
    have kX := Blk.new w 39 #[.int .i64 x.leaf, .int .i64 x.left, .int .i64 x.right]
    have hbx : Below w.heap.size w (w.alloc (.cells #[.int .i64 x.leaf, .int .i64 x.left, .int .i64 x.right] 39)) := by (repeat' (first | exact Below.refl _ _ | assumption | refine Below.setCell ?_ (by first | omega | exact Below.size (by assumption) | (simp; done) | (simp; omega)) _ | refine Below.alloc ?_ (by first | omega | exact Below.size (by assumption) | (simp; done) | (simp; omega)) _ | refine Below.drew ?_ | refine below_drewN ?_ _))
    replace h := h.all hbx
    replace kF := kF.all hbx
    replace oW := own_all oW hbx
    have hB := hbx.mono hlt
    have kf0 : KF g w (w.alloc (.cells #[.int .i64 x.leaf, .int .i64 x.left, .int .i64 x.right] 39)) := KF.below hbx
    obtain ⟨gX, hgX⟩ : ∃ x, x = w.heap.size := ⟨_, rfl⟩
    obtain ⟨W, hW⟩ : ∃ y, y = w.alloc (.cells #[.int .i64 x.leaf, .int .i64 x.left, .int .i64 x.right] 39) := ⟨_, rfl⟩
    rw [← hgX] at kX ⊢
    rw [← hW] at kX h kF oW hB kf0 ⊢
    have hXW : gX ≠ gW := by omega
    clear hW hgX hbx l0 l1 l2 q1 q6 cW
    have q6 := kF.cell 6
    obtain ⟨u0, i0⟩ := Option.isSome_iff_exists.1 (own_isSome oW (j := j) (by omega))
    have z0 := oW.frozenAt j
    have h5 := h.work HVW.out (j := j) (-1)
    have k5 := kX.far (p := ⟨gW, j, none⟩) hXW (.int .i64 (-1))
    have hB5 := hB.setCell (p := ⟨gW, j, none⟩) hgW0 (.int .i64 (-1))
    obtain ⟨cur, kW⟩ := own_cur' oW
    have kf5 := kf0.trans (KF.other (j := j) (u := .int .i64 (-1)) kW (by decide))
    clear kF oW hB h kW
    go_upto_region 6 with (fail)
    obtain ⟨W5, hW5⟩ : ∃ y, y = W.setCell ⟨gW, j, none⟩ (.int .i64 (-1)) := ⟨_, rfl⟩
    rw [← hW5] at h5 k5 hB5 kf5 ⊢
    clear hW5 q6 i0 z0 kX
    have x0 := k5.cell 0
    have x1 := k5.cell 1
    have x2 := k5.cell 2
    have kF := h5.blk
    by_cases hl0 : 0 ≤ x.leaf
    · have t0 : decide ((0 : Int) ≤ x.leaf) = true := decide_eq_true hl0
      unfold Nd.bad at hfalls
      rw [if_pos hl0] at hfalls
      obtain ⟨a, ha⟩ : ∃ a : Nat, x.leaf = a := ⟨x.leaf.toNat, by omega⟩
      have hal : a < f.ps.length := by simp only [FrM.er, List.length_map] at hfalls; omega
      obtain ⟨p, hp⟩ : ∃ p, f.ps[a]? = some p := ⟨_, List.getElem?_eq_getElem hal⟩
      have hPS := small_of (HF.out.ps p.er (List.mem_map_of_mem (List.mem_of_getElem? hp)))
      have hPA := (h5.own.pse p (List.mem_of_getElem? hp)).at_
      have HE := Lib.hid (finish_leaf HGD.out HX.out hl0)
      have hpd : Hid (f.er.ps.getD x.leaf.toNat .nil = p.er) := by
        show _ = _
        rw [ha, Int.toNat_natCast]
        exact getD_of _ (by simp only [FrM.er, List.getElem?_map, hp]; rfl)
      obtain ⟨bp, op, eap, blp, c0, c1⟩ := pt_get (Reads.of_own h5.own.ps) hp
      replace eap : f.pa = some ⟨bp, op, none⟩ := eap
      rw [ha] at k5 x0 t0
      have kF2 : Blk W5 g 29 _ := kF
      simp only at kF2
      rw [eap] at kF2
      have p0 := kF2.cell 0
      have hal2 : (a : Int) < (f.ps.length : Int) := by omega
      clear hl0 hfalls ha hp eap x1 x2
      go_upto_region 7 with (fail)
      have hS : Hid (∀ w', Below W5.heap.size W5 w' → (w'.cell? ⟨g, 0, none⟩ = some (.slice (some ⟨bp, op, none⟩) f.ps.length f.pc) ∧ w'.cell? ⟨gX, 0, none⟩ = some (.int .i64 a) ∧ w'.cell? ⟨bp, op + a * 2, none⟩ = some (.slice p.fa p.frs.length p.fc) ∧ w'.cell? ⟨bp, op + a * 2 + 1, none⟩ = some (.slice p.da p.dfs.length p.dc))) :=
        fun w' h => ⟨(kF2.all h).cell 0, (k5.all h).cell 0, (h.cell (p := ⟨bp, op + a * 2, none⟩) blp).trans c0, (h.cell (p := ⟨bp, op + a * 2 + 1, none⟩) blp).trans c1⟩
      have hb := (Below.refl W5.heap.size W5).drew
      refine wp_region_late (S := (fun w' => w'.cell? ⟨g, 0, none⟩ = some (.slice (some ⟨bp, op, none⟩) f.ps.length f.pc) ∧ w'.cell? ⟨gX, 0, none⟩ = some (.int .i64 a) ∧ w'.cell? ⟨bp, op + a * 2, none⟩ = some (.slice p.fa p.frs.length p.fc) ∧ w'.cell? ⟨bp, op + a * 2 + 1, none⟩ = some (.slice p.da p.dfs.length p.dc)))
        [13] (by kernel_rfl) (hS.out _ hb) (fun hHeld => ?_)
      obtain ⟨wv, hwv⟩ : ∃ x, x = W5.drew := ⟨_, rfl⟩
      rw [← hwv] at hb hHeld ⊢
      clear hwv c0 c1 p0 x0
      have hb1 := hb
      (refine wpAnyLT_take (i := 0) (oi := { dst := some 34, op := Op.move (Operand.tmp 0), type := 69, pos := "farm.go:123", after := #[], guard := none }) (v := ?_) rfl (by kernel_rfl) (by kernel_rfl) (by kernel_rfl) (fun _ _ _ h => h) (Or.inl ⟨by rfl, ?_⟩) (by assumption) (by kernel_rfl) (by rfl) (by kernel_rfl) ?_; rotate_left; (focus (intro w hSw; (try dsimp only at hSw); go_simp; (try with_reducible rfl))); (try simp only [Act.put, List.setIfInBounds_toArray, List.set_cons_zero, List.set_cons_succ]))
      (refine wpAnyLT_take (i := 1) (oi := { dst := some 35, op := Op.move (Operand.tmp 1), type := 3, pos := "farm.go:123", after := #[], guard := none }) (v := ?_) rfl (by kernel_rfl) (by kernel_rfl) (by kernel_rfl) (fun _ _ _ h => h) (Or.inl ⟨by rfl, ?_⟩) (by assumption) (by kernel_rfl) (by rfl) (by kernel_rfl) ?_; rotate_left; (focus (intro w hSw; (try dsimp only at hSw); go_simp; (try with_reducible rfl))); (try simp only [Act.put, List.setIfInBounds_toArray, List.set_cons_zero, List.set_cons_succ]))
      (refine wpAnyLT_take (i := 2) (oi := { dst := some 36, op := Op.move (Operand.tmp 5), type := 3, pos := "farm.go:123", after := #[], guard := none }) (v := ?_) rfl (by kernel_rfl) (by kernel_rfl) (by kernel_rfl) (fun _ _ _ h => h) (Or.inl ⟨by rfl, ?_⟩) (by assumption) (by kernel_rfl) (by rfl) (by kernel_rfl) ?_; rotate_left; (focus (intro w hSw; (try dsimp only at hSw); go_simp; (try with_reducible rfl))); (try simp only [Act.put, List.setIfInBounds_toArray, List.set_cons_zero, List.set_cons_succ]))
      (refine wpAnyLT_take (i := 3) (oi := { dst := some 37, op := Op.move (Operand.tmp 0), type := 69, pos := "farm.go:123", after := #[], guard := none }) (v := ?_) rfl (by kernel_rfl) (by kernel_rfl) (by kernel_rfl) (fun _ _ _ h => h) (Or.inl ⟨by rfl, ?_⟩) (by assumption) (by kernel_rfl) (by rfl) (by kernel_rfl) ?_; rotate_left; (focus (intro w hSw; (try dsimp only at hSw); go_simp; (try with_reducible rfl))); (try simp only [Act.put, List.setIfInBounds_toArray, List.set_cons_zero, List.set_cons_succ]))
      (refine wpAnyLT_take (i := 4) (oi := { dst := some 38, op := Op.nilCheck (Operand.tmp 37), type := 0, pos := "farm.go:123", after := #[{ on := 3, ground := Ground.data }], guard := none }) (v := ?_) rfl (by kernel_rfl) (by kernel_rfl) (by kernel_rfl) (fun _ _ _ h => h) (Or.inl ⟨by rfl, ?_⟩) (by assumption) (by kernel_rfl) (by rfl) (by kernel_rfl) ?_; rotate_left; (focus (intro w hSw; (try dsimp only at hSw); go_simp; (try with_reducible rfl))); (try simp only [Act.put, List.setIfInBounds_toArray, List.set_cons_zero, List.set_cons_succ]))
      (refine wpAnyLT_take (i := 5) (oi := { dst := some 39, op := Op.fieldAddr 29 (Operand.tmp 38) 0, type := 0, pos := "farm.go:123", after := #[{ on := 4, ground := Ground.data }], guard := none }) (v := ?_) rfl (by kernel_rfl) (by kernel_rfl) (by kernel_rfl) (fun _ _ _ h => h) (Or.inl ⟨by rfl, ?_⟩) (by assumption) (by kernel_rfl) (by rfl) (by kernel_rfl) ?_; rotate_left; (focus (intro w hSw; (try dsimp only at hSw); go_simp; (try with_reducible rfl))); (try simp only [Act.put, List.setIfInBounds_toArray, List.set_cons_zero, List.set_cons_succ]))
      (refine wpAnyLT_take (i := 6) (oi := { dst := some 40, op := Op.load 22 (Operand.tmp 39), type := 22, pos := "farm.go:123", after := #[{ on := 5, ground := Ground.data }], guard := none }) (v := ?_) rfl (by kernel_rfl) (by kernel_rfl) (by kernel_rfl) (fun _ _ _ h => h) (Or.inl ⟨by rfl, ?_⟩) (by assumption) (by kernel_rfl) (by rfl) (by kernel_rfl) ?_; rotate_left; (focus (intro w hSw; (try dsimp only at hSw); go_simp; (try with_reducible rfl))); (try simp only [Act.put, List.setIfInBounds_toArray, List.set_cons_zero, List.set_cons_succ]))
      (refine wpAnyLT_take (i := 7) (oi := { dst := some 41, op := Op.fieldAddr 39 (Operand.tmp 6) 0, type := 0, pos := "farm.go:123", after := #[], guard := none }) (v := ?_) rfl (by kernel_rfl) (by kernel_rfl) (by kernel_rfl) (fun _ _ _ h => h) (Or.inl ⟨by rfl, ?_⟩) (by assumption) (by kernel_rfl) (by rfl) (by kernel_rfl) ?_; rotate_left; (focus (intro w hSw; (try dsimp only at hSw); go_simp; (try with_reducible rfl))); (try simp only [Act.put, List.setIfInBounds_toArray, List.set_cons_zero, List.set_cons_succ]))
      (refine wpAnyLT_take (i := 8) (oi := { dst := some 42, op := Op.load 3 (Operand.tmp 41), type := 3, pos := "farm.go:123", after := #[{ on := 7, ground := Ground.data }], guard := none }) (v := ?_) rfl (by kernel_rfl) (by kernel_rfl) (by kernel_rfl) (fun _ _ _ h => h) (Or.inl ⟨by rfl, ?_⟩) (by assumption) (by kernel_rfl) (by rfl) (by kernel_rfl) ?_; rotate_left; (focus (intro w hSw; (try dsimp only at hSw); go_simp; (try with_reducible rfl))); (try simp only [Act.put, List.setIfInBounds_toArray, List.set_cons_zero, List.set_cons_succ]))
      (refine wpAnyLT_take (i := 9) (oi := { dst := some 43, op := Op.indexAddr 22 (Operand.tmp 40) (Operand.tmp 42), type := 0, pos := "farm.go:123", after := #[{ on := 6, ground := Ground.data }, { on := 8, ground := Ground.data }], guard := none }) (v := ?_) rfl (by kernel_rfl) (by kernel_rfl) (by kernel_rfl) (fun _ _ _ h => h) (Or.inl ⟨by rfl, ?_⟩) (by assumption) (by kernel_rfl) (by rfl) (by kernel_rfl) ?_; rotate_left; (focus (intro w hSw; (try dsimp only at hSw); go_simp; (try with_reducible rfl))); (try simp only [Act.put, List.setIfInBounds_toArray, List.set_cons_zero, List.set_cons_succ]))
      (refine wpAnyLT_take (i := 10) (oi := { dst := some 44, op := Op.load 44 (Operand.tmp 43), type := 44, pos := "farm.go:123", after := #[{ on := 9, ground := Ground.data }], guard := none }) (v := ?_) rfl (by kernel_rfl) (by kernel_rfl) (by kernel_rfl) (fun _ _ _ h => h) (Or.inl ⟨by rfl, ?_⟩) (by assumption) (by kernel_rfl) (by rfl) (by kernel_rfl) ?_; rotate_left; (focus (intro w hSw; (try dsimp only at hSw); go_simp; (try with_reducible rfl))); (try simp only [Act.put, List.setIfInBounds_toArray, List.set_cons_zero, List.set_cons_succ]))
      have CP := Lib.hid (copy_any p wv (hPA.all hb) hPS)
      (refine wpAnyL_ready (rs := [11]) (by kernel_rfl) (by simp) ?_; refine List.forall_mem_cons.2 ⟨stepL (o := { dst := some 45, op := Op.call { callee := Callee.value (Operand.func 41), args := #[Operand.tmp 44], argTypes := #[44] }, type := 44, pos := "farm.go:123", after := #[{ on := 10, ground := Ground.data }], guard := none }) rfl (fun K hK => ?_), fun _ h => by cases h⟩; (try go_simp); (go_at_call 41; refine CP.out.mono ?_; rintro e w2 ⟨q, rfl, hqo, hqe, hb2'⟩; have hb2 := hb1.trans (hb2'.mono hb1.size)); go_wp2_with fail; refine hK.out _ _ (hS.out _ hb2) (fun hHeld => ?_); (clear hK K; (try simp only [Act.put, List.setIfInBounds_toArray, List.set_cons_zero, List.set_cons_succ])))
      (refine wpAnyLT_take (i := 12) (oi := { dst := some 46, op := Op.build 50 #[(0, Operand.const (Value.int IntKind.i64 2)), (1, Operand.tmp 35), (2, Operand.tmp 36), (3, Operand.tmp 45)], type := 50, pos := "farm.go:123", after := #[{ on := 1, ground := Ground.data }, { on := 2, ground := Ground.data }, { on := 11, ground := Ground.data }], guard := none }) (v := ?_) rfl (by kernel_rfl) (by kernel_rfl) (by kernel_rfl) (fun _ _ _ h => h) (Or.inl ⟨by rfl, ?_⟩) (by assumption) (by kernel_rfl) (by rfl) (by kernel_rfl) ?_; rotate_left; (focus (intro w hSw; (try dsimp only at hSw); go_simp; (try with_reducible rfl))); (try simp only [Act.put, List.setIfInBounds_toArray, List.set_cons_zero, List.set_cons_succ]))
      have h8' := h5.all hb2
      have hB8 := hB5.trans (hb2.mono h5.lt)
      have kf8 := kf5.trans (KF.below hb2)
      have SD := Lib.hid (send_any { f with wk := f.wk.set j (-1) } ⟨2, (j : Int), i, q⟩ base g w2 h8' (hqo.mono (Nat.le_trans h5.lt hb.size)) n7)
      clear CP hHeld hS
      (refine wpAnyL_ready (rs := [13]) (by kernel_rfl) (by simp) ?_; refine List.forall_mem_cons.2 ⟨stepLate (o := { dst := some 47, op := Op.call { callee := Callee.value (Operand.func 54), args := #[Operand.tmp 34, Operand.tmp 46], argTypes := #[69, 50] }, type := 0, pos := "farm.go:123", after := #[{ on := 0, ground := Ground.data }, { on := 12, ground := Ground.data }, { on := 11, ground := Ground.chain }], guard := none }) rfl (by rfl) (fun K hK => ?_), fun _ h => by cases h⟩; (try go_simp); (go_at_call 54; refine SD.out.mono ?_; rintro e w8 ⟨rfl, f8, h8, e8, hb8, kfs⟩); go_wp2_with fail; refine hK.out _ _ ?_; (clear hK K; (try simp only [Act.put, List.setIfInBounds_toArray, List.set_cons_zero, List.set_cons_succ])))
      refine wpAnyL_done (by kernel_rfl) ?_ _
      have hB9 := hB8.trans hb8
      have kf9 := kf8.trans kfs
      have hEr : f8.er = sendP { f.er with wk := f.er.wk.set (j : Int).toNat (-1) } ⟨2, (j : Int), i, f.er.ps.getD x.leaf.toNat .nil⟩ := by
        rw [hpd.out, ← hqe]; exact e8
      clear SD h8' hb2 hb2' hb hb1
      go_wp2
      go_ret
      exact ⟨ret_val (by rw [HE.out]; rfl), f8, h8, by rw [HE.out]; exact hEr, hB9, kf9⟩
    · have t0 : decide ((0 : Int) ≤ x.leaf) = false := decide_eq_false hl0
      unfold Nd.bad at hfalls
      rw [if_neg hl0] at hfalls
      obtain ⟨a, ha⟩ : ∃ a : Nat, x.left = a := ⟨x.left.toNat, by omega⟩
      obtain ⟨d, hd⟩ : ∃ a : Nat, x.right = a := ⟨x.right.toNat, by omega⟩
      have lda : f.dn.length = f.pl.length := HF.out.ld
      have lha : f.hv.length = f.pl.length := by have := HF.out.lh; simp only [FrM.er, List.length_map] at this; exact this
      obtain ⟨pa, hpa⟩ : ∃ p, f.dn[a]? = some p := ⟨_, List.getElem?_eq_getElem (by omega)⟩
      obtain ⟨pd, hpd⟩ : ∃ p, f.dn[d]? = some p := ⟨_, List.getElem?_eq_getElem (by omega)⟩
      obtain ⟨ya, hya⟩ : ∃ p, f.hv[a]? = some p := ⟨_, List.getElem?_eq_getElem (by omega)⟩
      obtain ⟨yd, hyd⟩ : ∃ p, f.hv[d]? = some p := ⟨_, List.getElem?_eq_getElem (by omega)⟩
      have m1 : (a : Int) < (f.dn.length : Int) := by omega
      have m2 : (d : Int) < (f.dn.length : Int) := by omega
      have m3 : (a : Int) < (f.hv.length : Int) := by omega
      have m4 : (d : Int) < (f.hv.length : Int) := by omega
      have m5 : a < f.dn.length := by omega
      have m6 : d < f.dn.length := by omega
      have m7 : a < f.hv.length := by omega
      have m8 : d < f.hv.length := by omega
      have gda : Hid (f.er.dn.getD x.left.toNat false = pa) := by show _ = _; rw [ha, Int.toNat_natCast]; exact getD_of _ hpa
      have gdd : Hid (f.er.dn.getD x.right.toNat false = pd) := by show _ = _; rw [hd, Int.toNat_natCast]; exact getD_of _ hpd
      have gha : Hid (f.er.hv.getD x.left.toNat .nil = ya.er) := by show _ = _; rw [ha, Int.toNat_natCast]; exact getD_of _ (by simp only [FrM.er, List.getElem?_map, hya]; rfl)
      have ghd : Hid (f.er.hv.getD x.right.toNat .nil = yd.er) := by show _ = _; rw [hd, Int.toNat_natCast]; exact getD_of _ (by simp only [FrM.er, List.getElem?_map, hyd]; rfl)
      have hYA := (h5.own.hve ya (List.mem_of_getElem? hya)).at_
      have hYD := (h5.own.hve yd (List.mem_of_getElem? hyd)).at_
      obtain ⟨bn, on, ead, bln, hcn⟩ := (Reads.of_own h5.own.dn).2 (by show 0 < f.dn.length; omega)
      replace ead : f.da = some ⟨bn, on, none⟩ := ead
      have ca := hcn a (.bool pa) (by simp only [boolsV, List.getElem?_map, hpa]; rfl)
      have cd := hcn d (.bool pd) (by simp only [boolsV, List.getElem?_map, hpd]; rfl)
      obtain ⟨bh, oh, eah, blh, c0, c1⟩ := pt_get (Reads.of_own h5.own.hv) hya
      obtain ⟨bh', oh', eah', _, d0, d1⟩ := pt_get (Reads.of_own h5.own.hv) hyd
      replace eah : f.ha = some ⟨bh, oh, none⟩ := eah
      replace eah' : f.ha = some ⟨bh', oh', none⟩ := eah'
      rw [eah] at eah'
      injection eah' with eah'
      injection eah' with e1 e2
      subst e1 e2
      have kF2 : Blk W5 g 29 _ := kF
      simp only at kF2
      rw [ead, eah] at kF2
      have p3 := kF2.cell 3
      have p4 := kF2.cell 4
      rw [ha] at x1 k5
      rw [hd] at x2 k5
      have HL := Lib.hid hl0
      clear hfalls ha hd lda lha hpa hpd hya hyd ead eah hcn hl0 kF
      go_upto_region 9 with (fail)
      cases pa with
      | false =>
        have HE := Lib.hid (finish_wait HGD.out HX.out HL.out (.inl gda.out))
        go_quiet (fail)
        have hfin := h5.all (below_drewN (Below.refl W5.heap.size W5) nq)
        have hBfin := below_drewN hB5 nq
        have kfin := kf5.trans (KF.drewN nq)
        (go_wp2; go_ret; exact ⟨ret_val (by rw [HE.out]; rfl), _, hfin, by rw [HE.out]; rfl, hBfin, kfin⟩)
      | true =>
        cases pd with
        | false =>
          have HE := Lib.hid (finish_wait HGD.out HX.out HL.out (.inr gdd.out))
          go_quiet (fail)
          have hfin := h5.all (below_drewN (Below.refl W5.heap.size W5) nq)
          have hBfin := below_drewN hB5 nq
          have kfin := kf5.trans (KF.drewN nq)
          (go_wp2; go_ret; exact ⟨ret_val (by rw [HE.out]; rfl), _, hfin, by rw [HE.out]; rfl, hBfin, kfin⟩)
        | true =>
          have HND : Hid (¬ (f.er.dn.getD x.left.toNat false = false ∨ f.er.dn.getD x.right.toNat false = false)) := by
            show ¬ _
            rw [gda.out, gdd.out]; simp
          go_quiet (fail)
          have hdn : Below W5.heap.size W5 (W5.drewN nq) := below_drewN (Below.refl _ _) nq
          replace kF2 := kF2.all hdn
          replace k5 := k5.all hdn
          replace h5 := h5.all hdn
          replace hB5 := below_drewN hB5 nq
          replace kf5 := kf5.trans (KF.drewN nq)
          replace hYA := hYA.all hdn
          replace hYD := hYD.all hdn
          replace c0 := (hdn.cell (p := ⟨bh, oh + a * 2, none⟩) blh).trans c0
          replace c1 := (hdn.cell (p := ⟨bh, oh + a * 2 + 1, none⟩) blh).trans c1
          replace d0 := (hdn.cell (p := ⟨bh, oh + d * 2, none⟩) blh).trans d0
          replace d1 := (hdn.cell (p := ⟨bh, oh + d * 2 + 1, none⟩) blh).trans d1
          replace blh := Nat.lt_of_lt_of_le blh hdn.size
          obtain ⟨W9, hW9⟩ : ∃ y, y = W5.drewN nq := ⟨_, rfl⟩
          rw [← hW9] at kF2 k5 h5 hB5 kf5 hYA hYD c0 c1 d0 d1 blh ⊢
          clear hW9 hdn x0 x1 x2 p3 p4 ca cd
          have p4 := kF2.cell 4
          have x1 := k5.cell 1
          have x2 := k5.cell 2
          go_upto_region 11 with (fail)
          have hlt9 := h5.lt
          go_cut [7, 8] (fun bx en wx => ∃ (q : PtM) (n : Int) (gq : Nat), bx = .pointer (some ⟨gq, 0, none⟩) ∧ en = .int .i64 n ∧ Hid (joinP ya.er yd.er = (q.er, n)) ∧ Blk wx gq 44 #[.slice q.fa q.frs.length q.fc, .slice q.da q.dfs.length q.dc] ∧ q.Own wx W9.heap.size ∧ Below W9.heap.size W9 wx)
          case first =>
            have hS : Hid (∀ w', Below W9.heap.size W9 w' → (w'.cell? ⟨g, 4, none⟩ = some (.slice (some ⟨bh, oh, none⟩) f.hv.length f.hc) ∧ w'.cell? ⟨gX, 1, none⟩ = some (.int .i64 a) ∧ w'.cell? ⟨gX, 2, none⟩ = some (.int .i64 d) ∧ w'.cell? ⟨bh, oh + a * 2, none⟩ = some (.slice ya.fa ya.frs.length ya.fc) ∧ w'.cell? ⟨bh, oh + a * 2 + 1, none⟩ = some (.slice ya.da ya.dfs.length ya.dc) ∧ w'.cell? ⟨bh, oh + d * 2, none⟩ = some (.slice yd.fa yd.frs.length yd.fc) ∧ w'.cell? ⟨bh, oh + d * 2 + 1, none⟩ = some (.slice yd.da yd.dfs.length yd.dc))) :=
              fun w' h => ⟨(kF2.all h).cell 4, (k5.all h).cell 1, (k5.all h).cell 2, (h.cell (p := ⟨bh, oh + a * 2, none⟩) blh).trans c0, (h.cell (p := ⟨bh, oh + a * 2 + 1, none⟩) blh).trans c1, (h.cell (p := ⟨bh, oh + d * 2, none⟩) blh).trans d0, (h.cell (p := ⟨bh, oh + d * 2 + 1, none⟩) blh).trans d1⟩
            have hb := (Below.refl W9.heap.size W9).drew
            refine wp_region_late (S := (fun w' => w'.cell? ⟨g, 4, none⟩ = some (.slice (some ⟨bh, oh, none⟩) f.hv.length f.hc) ∧ w'.cell? ⟨gX, 1, none⟩ = some (.int .i64 a) ∧ w'.cell? ⟨gX, 2, none⟩ = some (.int .i64 d) ∧ w'.cell? ⟨bh, oh + a * 2, none⟩ = some (.slice ya.fa ya.frs.length ya.fc) ∧ w'.cell? ⟨bh, oh + a * 2 + 1, none⟩ = some (.slice ya.da ya.dfs.length ya.dc) ∧ w'.cell? ⟨bh, oh + d * 2, none⟩ = some (.slice yd.fa yd.frs.length yd.fc) ∧ w'.cell? ⟨bh, oh + d * 2 + 1, none⟩ = some (.slice yd.da yd.dfs.length yd.dc))) [] (by kernel_rfl) (hS.out _ hb) (fun hHeld => ?_)
            obtain ⟨wv, hwv⟩ : ∃ x, x = W9.drew := ⟨_, rfl⟩
            rw [← hwv] at hb hHeld ⊢
            clear hwv c0 c1 d0 d1 p4 x1 x2
            (refine wpAnyLT_take (i := 0) (oi := { dst := some 69, op := Op.move (Operand.tmp 0), type := 69, pos := "farm.go:129", after := #[], guard := none }) (v := ?_) rfl (by kernel_rfl) (by kernel_rfl) (by kernel_rfl) (fun _ _ _ h => h) (Or.inl ⟨by rfl, ?_⟩) (by assumption) (by kernel_rfl) (by rfl) (by kernel_rfl) ?_; rotate_left; (focus (intro w hSw; (try dsimp only at hSw); go_simp; (try with_reducible rfl))); (try simp only [Act.put, List.setIfInBounds_toArray, List.set_cons_zero, List.set_cons_succ]))
            (refine wpAnyLT_take (i := 1) (oi := { dst := some 70, op := Op.nilCheck (Operand.tmp 69), type := 0, pos := "farm.go:129", after := #[{ on := 0, ground := Ground.data }], guard := none }) (v := ?_) rfl (by kernel_rfl) (by kernel_rfl) (by kernel_rfl) (fun _ _ _ h => h) (Or.inl ⟨by rfl, ?_⟩) (by assumption) (by kernel_rfl) (by rfl) (by kernel_rfl) ?_; rotate_left; (focus (intro w hSw; (try dsimp only at hSw); go_simp; (try with_reducible rfl))); (try simp only [Act.put, List.setIfInBounds_toArray, List.set_cons_zero, List.set_cons_succ]))
            (refine wpAnyLT_take (i := 2) (oi := { dst := some 71, op := Op.fieldAddr 29 (Operand.tmp 70) 4, type := 0, pos := "farm.go:129", after := #[{ on := 1, ground := Ground.data }], guard := none }) (v := ?_) rfl (by kernel_rfl) (by kernel_rfl) (by kernel_rfl) (fun _ _ _ h => h) (Or.inl ⟨by rfl, ?_⟩) (by assumption) (by kernel_rfl) (by rfl) (by kernel_rfl) ?_; rotate_left; (focus (intro w hSw; (try dsimp only at hSw); go_simp; (try with_reducible rfl))); (try simp only [Act.put, List.setIfInBounds_toArray, List.set_cons_zero, List.set_cons_succ]))
            (refine wpAnyLT_take (i := 3) (oi := { dst := some 72, op := Op.load 22 (Operand.tmp 71), type := 22, pos := "farm.go:129", after := #[{ on := 2, ground := Ground.data }], guard := none }) (v := ?_) rfl (by kernel_rfl) (by kernel_rfl) (by kernel_rfl) (fun _ _ _ h => h) (Or.inl ⟨by rfl, ?_⟩) (by assumption) (by kernel_rfl) (by rfl) (by kernel_rfl) ?_; rotate_left; (focus (intro w hSw; (try dsimp only at hSw); go_simp; (try with_reducible rfl))); (try simp only [Act.put, List.setIfInBounds_toArray, List.set_cons_zero, List.set_cons_succ]))
            (refine wpAnyLT_take (i := 4) (oi := { dst := some 73, op := Op.fieldAddr 39 (Operand.tmp 6) 1, type := 0, pos := "farm.go:129", after := #[], guard := none }) (v := ?_) rfl (by kernel_rfl) (by kernel_rfl) (by kernel_rfl) (fun _ _ _ h => h) (Or.inl ⟨by rfl, ?_⟩) (by assumption) (by kernel_rfl) (by rfl) (by kernel_rfl) ?_; rotate_left; (focus (intro w hSw; (try dsimp only at hSw); go_simp; (try with_reducible rfl))); (try simp only [Act.put, List.setIfInBounds_toArray, List.set_cons_zero, List.set_cons_succ]))
            (refine wpAnyLT_take (i := 5) (oi := { dst := some 74, op := Op.load 3 (Operand.tmp 73), type := 3, pos := "farm.go:129", after := #[{ on := 4, ground := Ground.data }], guard := none }) (v := ?_) rfl (by kernel_rfl) (by kernel_rfl) (by kernel_rfl) (fun _ _ _ h => h) (Or.inl ⟨by rfl, ?_⟩) (by assumption) (by kernel_rfl) (by rfl) (by kernel_rfl) ?_; rotate_left; (focus (intro w hSw; (try dsimp only at hSw); go_simp; (try with_reducible rfl))); (try simp only [Act.put, List.setIfInBounds_toArray, List.set_cons_zero, List.set_cons_succ]))
            (refine wpAnyLT_take (i := 6) (oi := { dst := some 75, op := Op.indexAddr 22 (Operand.tmp 72) (Operand.tmp 74), type := 0, pos := "farm.go:129", after := #[{ on := 3, ground := Ground.data }, { on := 5, ground := Ground.data }], guard := none }) (v := ?_) rfl (by kernel_rfl) (by kernel_rfl) (by kernel_rfl) (fun _ _ _ h => h) (Or.inl ⟨by rfl, ?_⟩) (by assumption) (by kernel_rfl) (by rfl) (by kernel_rfl) ?_; rotate_left; (focus (intro w hSw; (try dsimp only at hSw); go_simp; (try with_reducible rfl))); (try simp only [Act.put, List.setIfInBounds_toArray, List.set_cons_zero, List.set_cons_succ]))
            (refine wpAnyLT_take (i := 7) (oi := { dst := some 76, op := Op.load 44 (Operand.tmp 75), type := 44, pos := "farm.go:129", after := #[{ on := 6, ground := Ground.data }], guard := none }) (v := ?_) rfl (by kernel_rfl) (by kernel_rfl) (by kernel_rfl) (fun _ _ _ h => h) (Or.inl ⟨by rfl, ?_⟩) (by assumption) (by kernel_rfl) (by rfl) (by kernel_rfl) ?_; rotate_left; (focus (intro w hSw; (try dsimp only at hSw); go_simp; (try with_reducible rfl))); (try simp only [Act.put, List.setIfInBounds_toArray, List.set_cons_zero, List.set_cons_succ]))
            (refine wpAnyLT_take (i := 8) (oi := { dst := some 77, op := Op.move (Operand.tmp 0), type := 69, pos := "farm.go:129", after := #[], guard := none }) (v := ?_) rfl (by kernel_rfl) (by kernel_rfl) (by kernel_rfl) (fun _ _ _ h => h) (Or.inl ⟨by rfl, ?_⟩) (by assumption) (by kernel_rfl) (by rfl) (by kernel_rfl) ?_; rotate_left; (focus (intro w hSw; (try dsimp only at hSw); go_simp; (try with_reducible rfl))); (try simp only [Act.put, List.setIfInBounds_toArray, List.set_cons_zero, List.set_cons_succ]))
            (refine wpAnyLT_take (i := 9) (oi := { dst := some 78, op := Op.nilCheck (Operand.tmp 77), type := 0, pos := "farm.go:129", after := #[{ on := 8, ground := Ground.data }], guard := none }) (v := ?_) rfl (by kernel_rfl) (by kernel_rfl) (by kernel_rfl) (fun _ _ _ h => h) (Or.inl ⟨by rfl, ?_⟩) (by assumption) (by kernel_rfl) (by rfl) (by kernel_rfl) ?_; rotate_left; (focus (intro w hSw; (try dsimp only at hSw); go_simp; (try with_reducible rfl))); (try simp only [Act.put, List.setIfInBounds_toArray, List.set_cons_zero, List.set_cons_succ]))
            (refine wpAnyLT_take (i := 10) (oi := { dst := some 79, op := Op.fieldAddr 29 (Operand.tmp 78) 4, type := 0, pos := "farm.go:129", after := #[{ on := 9, ground := Ground.data }], guard := none }) (v := ?_) rfl (by kernel_rfl) (by kernel_rfl) (by kernel_rfl) (fun _ _ _ h => h) (Or.inl ⟨by rfl, ?_⟩) (by assumption) (by kernel_rfl) (by rfl) (by kernel_rfl) ?_; rotate_left; (focus (intro w hSw; (try dsimp only at hSw); go_simp; (try with_reducible rfl))); (try simp only [Act.put, List.setIfInBounds_toArray, List.set_cons_zero, List.set_cons_succ]))
            (refine wpAnyLT_take (i := 11) (oi := { dst := some 80, op := Op.load 22 (Operand.tmp 79), type := 22, pos := "farm.go:129", after := #[{ on := 10, ground := Ground.data }], guard := none }) (v := ?_) rfl (by kernel_rfl) (by kernel_rfl) (by kernel_rfl) (fun _ _ _ h => h) (Or.inl ⟨by rfl, ?_⟩) (by assumption) (by kernel_rfl) (by rfl) (by kernel_rfl) ?_; rotate_left; (focus (intro w hSw; (try dsimp only at hSw); go_simp; (try with_reducible rfl))); (try simp only [Act.put, List.setIfInBounds_toArray, List.set_cons_zero, List.set_cons_succ]))
            (refine wpAnyLT_take (i := 12) (oi := { dst := some 81, op := Op.fieldAddr 39 (Operand.tmp 6) 2, type := 0, pos := "farm.go:129", after := #[], guard := none }) (v := ?_) rfl (by kernel_rfl) (by kernel_rfl) (by kernel_rfl) (fun _ _ _ h => h) (Or.inl ⟨by rfl, ?_⟩) (by assumption) (by kernel_rfl) (by rfl) (by kernel_rfl) ?_; rotate_left; (focus (intro w hSw; (try dsimp only at hSw); go_simp; (try with_reducible rfl))); (try simp only [Act.put, List.setIfInBounds_toArray, List.set_cons_zero, List.set_cons_succ]))
            (refine wpAnyLT_take (i := 13) (oi := { dst := some 82, op := Op.load 3 (Operand.tmp 81), type := 3, pos := "farm.go:129", after := #[{ on := 12, ground := Ground.data }], guard := none }) (v := ?_) rfl (by kernel_rfl) (by kernel_rfl) (by kernel_rfl) (fun _ _ _ h => h) (Or.inl ⟨by rfl, ?_⟩) (by assumption) (by kernel_rfl) (by rfl) (by kernel_rfl) ?_; rotate_left; (focus (intro w hSw; (try dsimp only at hSw); go_simp; (try with_reducible rfl))); (try simp only [Act.put, List.setIfInBounds_toArray, List.set_cons_zero, List.set_cons_succ]))
            (refine wpAnyLT_take (i := 14) (oi := { dst := some 83, op := Op.indexAddr 22 (Operand.tmp 80) (Operand.tmp 82), type := 0, pos := "farm.go:129", after := #[{ on := 11, ground := Ground.data }, { on := 13, ground := Ground.data }], guard := none }) (v := ?_) rfl (by kernel_rfl) (by kernel_rfl) (by kernel_rfl) (fun _ _ _ h => h) (Or.inl ⟨by rfl, ?_⟩) (by assumption) (by kernel_rfl) (by rfl) (by kernel_rfl) ?_; rotate_left; (focus (intro w hSw; (try dsimp only at hSw); go_simp; (try with_reducible rfl))); (try simp only [Act.put, List.setIfInBounds_toArray, List.set_cons_zero, List.set_cons_succ]))
            (refine wpAnyLT_take (i := 15) (oi := { dst := some 84, op := Op.load 44 (Operand.tmp 83), type := 44, pos := "farm.go:129", after := #[{ on := 14, ground := Ground.data }], guard := none }) (v := ?_) rfl (by kernel_rfl) (by kernel_rfl) (by kernel_rfl) (fun _ _ _ h => h) (Or.inl ⟨by rfl, ?_⟩) (by assumption) (by kernel_rfl) (by rfl) (by kernel_rfl) ?_; rotate_left; (focus (intro w hSw; (try dsimp only at hSw); go_simp; (try with_reducible rfl))); (try simp only [Act.put, List.setIfInBounds_toArray, List.set_cons_zero, List.set_cons_succ]))
            (refine wpAnyL_ready (rs := [16, 20]) (by kernel_rfl) (by simp) ?_; refine List.forall_mem_cons.2 ⟨?_, List.forall_mem_cons.2 ⟨?_, fun _ h => by cases h⟩⟩)
            · have JN := Lib.hid (join_any ya yd wv (hYA.all hb) (hYD.all hb))
              (refine stepL (o := { dst := some 85, op := Op.call { callee := Callee.value (Operand.func 18), args := #[Operand.tmp 76, Operand.tmp 84], argTypes := #[44, 44] }, type := 59, pos := "farm.go:129", after := #[{ on := 7, ground := Ground.data }, { on := 15, ground := Ground.data }], guard := none }) rfl (fun K hK => ?_); (try go_simp); (go_at_call 18; refine JN.out.mono ?_; rintro e w2 ⟨q, rfl, oq, eq, hb2'⟩; have hb2 := hb.trans (hb2'.mono hb.size)); go_wp2_with fail; refine hK.out _ _ (hS.out _ hb2) (fun hHeld => ?_); (clear hK K; (try simp only [Act.put, List.setIfInBounds_toArray, List.set_cons_zero, List.set_cons_succ])))
              clear JN
              (refine wpAnyLT_take (i := 17) (oi := { dst := some 68, op := Op.move (Operand.tmp 85), type := 59, pos := "farm.go:129", after := #[{ on := 16, ground := Ground.data }], guard := none }) (v := ?_) rfl (by kernel_rfl) (by kernel_rfl) (by kernel_rfl) (fun _ _ _ h => h) (Or.inl ⟨by rfl, ?_⟩) (by assumption) (by kernel_rfl) (by rfl) (by kernel_rfl) ?_; rotate_left; (focus (intro w hSw; (try dsimp only at hSw); go_simp; (try with_reducible rfl))); (try simp only [Act.put, List.setIfInBounds_toArray, List.set_cons_zero, List.set_cons_succ]))
              (refine wpAnyLT_take (i := 18) (oi := { dst := some 86, op := Op.extract (Operand.tmp 68) 0, type := 44, pos := "farm.go:129", after := #[{ on := 17, ground := Ground.data }], guard := none }) (v := ?_) rfl (by kernel_rfl) (by kernel_rfl) (by kernel_rfl) (fun _ _ _ h => h) (Or.inl ⟨by rfl, ?_⟩) (by assumption) (by kernel_rfl) (by rfl) (by kernel_rfl) ?_; rotate_left; (focus (intro w hSw; (try dsimp only at hSw); go_simp; (try with_reducible rfl))); (try simp only [Act.put, List.setIfInBounds_toArray, List.set_cons_zero, List.set_cons_succ]))
              (refine wpAnyLT_take (i := 19) (oi := { dst := some 87, op := Op.extract (Operand.tmp 68) 1, type := 32, pos := "farm.go:129", after := #[{ on := 17, ground := Ground.data }, { on := 21, ground := Ground.gcOnly Departure.lateStores }], guard := none }) (v := ?_) rfl (by kernel_rfl) (by kernel_rfl) (by kernel_rfl) (fun _ _ _ h => h) (Or.inl ⟨by rfl, ?_⟩) (by assumption) (by kernel_rfl) (by rfl) (by kernel_rfl) ?_; rotate_left; (focus (intro w hSw; (try dsimp only at hSw); go_simp; (try with_reducible rfl))); (try simp only [Act.put, List.setIfInBounds_toArray, List.set_cons_zero, List.set_cons_succ]))
              (refine wpAnyL_ready (rs := [20]) (by kernel_rfl) (by simp) ?_; refine List.forall_mem_cons.2 ⟨?_, fun _ h => by cases h⟩)
              (refine stepL (o := { dst := some 7, op := Op.alloc 44, type := 0, pos := "farm.go:129", after := #[], guard := none }) rfl (fun K hK => ?_); go_simp; refine hK.out _ _ (hS.out _ (hb2.alloc hb2.size _)) (fun hHeld => ?_); (clear hK K; (try simp only [Act.put, List.setIfInBounds_toArray, List.set_cons_zero, List.set_cons_succ])))
              have hb3 := hb2.alloc hb2.size (.cells #[.slice none 0 0, .slice none 0 0] 44)
              have kQ := Blk.new w2 44 #[.slice none 0 0, .slice none 0 0]
              have gqb : W9.heap.size ≤ w2.heap.size := hb2.size
              have oq3 := (oq.mono hb.size).alloc (.cells #[.slice none 0 0, .slice none 0 0] 44)
              obtain ⟨gq, hgq⟩ : ∃ x, x = w2.heap.size := ⟨_, rfl⟩
              obtain ⟨wx, hwx⟩ : ∃ x, x = w2.alloc (.cells #[.slice none 0 0, .slice none 0 0] 44) := ⟨_, rfl⟩
              rw [← hgq] at kQ gqb ⊢
              rw [← hwx] at kQ hb3 oq3 hHeld ⊢
              clear hwx hgq hb2 hb2' oq
              have q0 := kQ.cell 0
              have q1 := kQ.cell 1
              have z0 := kQ.frozen 0
              have z1 := kQ.frozen 1
              have hb4 := (hb3.setCell (p := ⟨gq, 0, none⟩) gqb (.slice q.fa q.frs.length q.fc)).setCell (p := ⟨gq, 1, none⟩) gqb (.slice q.da q.dfs.length q.dc)
              (refine wpAnyL_ready (rs := [21]) (by kernel_rfl) (by simp) ?_; refine List.forall_mem_cons.2 ⟨?_, fun _ h => by cases h⟩)
              (refine stepL (o := { dst := none, op := Op.store 44 (Operand.tmp 7) (Operand.tmp 86), type := 0, pos := "farm.go:129", after := #[{ on := 20, ground := Ground.data }, { on := 18, ground := Ground.data }, { on := 16, ground := Ground.chain }, { on := 0, ground := Ground.phase }, { on := 1, ground := Ground.phase }, { on := 2, ground := Ground.phase }, { on := 3, ground := Ground.phase }, { on := 4, ground := Ground.phase }, { on := 5, ground := Ground.phase }, { on := 6, ground := Ground.phase }, { on := 7, ground := Ground.phase }, { on := 8, ground := Ground.phase }, { on := 9, ground := Ground.phase }, { on := 10, ground := Ground.phase }, { on := 11, ground := Ground.phase }, { on := 12, ground := Ground.phase }, { on := 13, ground := Ground.phase }, { on := 14, ground := Ground.phase }, { on := 15, ground := Ground.phase }, { on := 16, ground := Ground.phase }, { on := 17, ground := Ground.phase }, { on := 18, ground := Ground.phase }, { on := 19, ground := Ground.textOnly Departure.lateStores }, { on := 20, ground := Ground.phase }], guard := none }) rfl (fun K hK => ?_); go_simp; refine hK.out _ _ (hS.out _ hb4) (fun hHeld => ?_); (clear hK K; (try simp only [Act.put, List.setIfInBounds_toArray, List.set_cons_zero, List.set_cons_succ])))
              clear q0 q1 z0 z1
              (refine wpAnyLT_take (i := 22) (oi := { dst := some 8, op := Op.assign (Operand.tmp 87), type := 32, pos := "farm.go:129", after := #[{ on := 19, ground := Ground.data }, { on := 21, ground := Ground.chain }, { on := 0, ground := Ground.phase }, { on := 1, ground := Ground.phase }, { on := 2, ground := Ground.phase }, { on := 3, ground := Ground.phase }, { on := 4, ground := Ground.phase }, { on := 5, ground := Ground.phase }, { on := 6, ground := Ground.phase }, { on := 7, ground := Ground.phase }, { on := 8, ground := Ground.phase }, { on := 9, ground := Ground.phase }, { on := 10, ground := Ground.phase }, { on := 11, ground := Ground.phase }, { on := 12, ground := Ground.phase }, { on := 13, ground := Ground.phase }, { on := 14, ground := Ground.phase }, { on := 15, ground := Ground.phase }, { on := 16, ground := Ground.phase }, { on := 17, ground := Ground.phase }, { on := 18, ground := Ground.phase }, { on := 19, ground := Ground.phase }, { on := 20, ground := Ground.phase }, { on := 21, ground := Ground.phase }], guard := none }) (v := ?_) rfl (by kernel_rfl) (by kernel_rfl) (by kernel_rfl) (fun _ _ _ h => h) (Or.inl ⟨by rfl, ?_⟩) (by assumption) (by kernel_rfl) (by rfl) (by kernel_rfl) ?_; rotate_left; (focus (intro w hSw; (try dsimp only at hSw); go_simp; (try with_reducible rfl))); (try simp only [Act.put, List.setIfInBounds_toArray, List.set_cons_zero, List.set_cons_succ]))
              refine wpAnyL_done (by kernel_rfl) ?_ _
              go_wp2
              go_meet
              exact ⟨q, _, _, rfl, rfl, (by show _ = _; rw [eq]), (kQ.set_ 0 _).set_ 1 _, (oq3.blk kQ (by decide) (by decide) (by decide) (by decide) _).blk (kQ.set_ 0 _) (by decide) (by decide) (by decide) (by decide) _, hb4⟩
            · (refine stepL (o := { dst := some 7, op := Op.alloc 44, type := 0, pos := "farm.go:129", after := #[], guard := none }) rfl (fun K hK => ?_); go_simp; refine hK.out _ _ (hS.out _ (hb.alloc hb.size _)) (fun hHeld => ?_); (clear hK K; (try simp only [Act.put, List.setIfInBounds_toArray, List.set_cons_zero, List.set_cons_succ])))
              have kQ := Blk.new wv 44 #[.slice none 0 0, .slice none 0 0]
              have gqb : W9.heap.size ≤ wv.heap.size := hb.size
              replace hb := hb.alloc hb.size (.cells #[.slice none 0 0, .slice none 0 0] 44)
              obtain ⟨gq, hgq⟩ : ∃ x, x = wv.heap.size := ⟨_, rfl⟩
              obtain ⟨wx, hwx⟩ : ∃ x, x = wv.alloc (.cells #[.slice none 0 0, .slice none 0 0] 44) := ⟨_, rfl⟩
              rw [← hgq] at kQ gqb ⊢
              rw [← hwx] at kQ hb hHeld ⊢
              clear hwx hgq
              have JN := Lib.hid (join_any ya yd wx (hYA.all hb) (hYD.all hb))
              (refine wpAnyL_ready (rs := [16]) (by kernel_rfl) (by simp) ?_; refine List.forall_mem_cons.2 ⟨?_, fun _ h => by cases h⟩)
              (refine stepL (o := { dst := some 85, op := Op.call { callee := Callee.value (Operand.func 18), args := #[Operand.tmp 76, Operand.tmp 84], argTypes := #[44, 44] }, type := 59, pos := "farm.go:129", after := #[{ on := 7, ground := Ground.data }, { on := 15, ground := Ground.data }], guard := none }) rfl (fun K hK => ?_); (try go_simp); (go_at_call 18; refine JN.out.mono ?_; rintro e w2 ⟨q, rfl, oq, eq, hb2'⟩; have hb2 := hb.trans (hb2'.mono hb.size)); go_wp2_with fail; refine hK.out _ _ (hS.out _ hb2) (fun hHeld => ?_); (clear hK K; (try simp only [Act.put, List.setIfInBounds_toArray, List.set_cons_zero, List.set_cons_succ])))
              clear JN
              (refine wpAnyLT_take (i := 17) (oi := { dst := some 68, op := Op.move (Operand.tmp 85), type := 59, pos := "farm.go:129", after := #[{ on := 16, ground := Ground.data }], guard := none }) (v := ?_) rfl (by kernel_rfl) (by kernel_rfl) (by kernel_rfl) (fun _ _ _ h => h) (Or.inl ⟨by rfl, ?_⟩) (by assumption) (by kernel_rfl) (by rfl) (by kernel_rfl) ?_; rotate_left; (focus (intro w hSw; (try dsimp only at hSw); go_simp; (try with_reducible rfl))); (try simp only [Act.put, List.setIfInBounds_toArray, List.set_cons_zero, List.set_cons_succ]))
              (refine wpAnyLT_take (i := 18) (oi := { dst := some 86, op := Op.extract (Operand.tmp 68) 0, type := 44, pos := "farm.go:129", after := #[{ on := 17, ground := Ground.data }], guard := none }) (v := ?_) rfl (by kernel_rfl) (by kernel_rfl) (by kernel_rfl) (fun _ _ _ h => h) (Or.inl ⟨by rfl, ?_⟩) (by assumption) (by kernel_rfl) (by rfl) (by kernel_rfl) ?_; rotate_left; (focus (intro w hSw; (try dsimp only at hSw); go_simp; (try with_reducible rfl))); (try simp only [Act.put, List.setIfInBounds_toArray, List.set_cons_zero, List.set_cons_succ]))
              (refine wpAnyLT_take (i := 19) (oi := { dst := some 87, op := Op.extract (Operand.tmp 68) 1, type := 32, pos := "farm.go:129", after := #[{ on := 17, ground := Ground.data }, { on := 21, ground := Ground.gcOnly Departure.lateStores }], guard := none }) (v := ?_) rfl (by kernel_rfl) (by kernel_rfl) (by kernel_rfl) (fun _ _ _ h => h) (Or.inl ⟨by rfl, ?_⟩) (by assumption) (by kernel_rfl) (by rfl) (by kernel_rfl) ?_; rotate_left; (focus (intro w hSw; (try dsimp only at hSw); go_simp; (try with_reducible rfl))); (try simp only [Act.put, List.setIfInBounds_toArray, List.set_cons_zero, List.set_cons_succ]))
              replace kQ := kQ.all hb2'
              have oq3 := oq.mono hb.size
              have q0 := kQ.cell 0
              have q1 := kQ.cell 1
              have z0 := kQ.frozen 0
              have z1 := kQ.frozen 1
              have hb4 := (hb2.setCell (p := ⟨gq, 0, none⟩) gqb (.slice q.fa q.frs.length q.fc)).setCell (p := ⟨gq, 1, none⟩) gqb (.slice q.da q.dfs.length q.dc)
              (refine wpAnyL_ready (rs := [21]) (by kernel_rfl) (by simp) ?_; refine List.forall_mem_cons.2 ⟨?_, fun _ h => by cases h⟩)
              (refine stepL (o := { dst := none, op := Op.store 44 (Operand.tmp 7) (Operand.tmp 86), type := 0, pos := "farm.go:129", after := #[{ on := 20, ground := Ground.data }, { on := 18, ground := Ground.data }, { on := 16, ground := Ground.chain }, { on := 0, ground := Ground.phase }, { on := 1, ground := Ground.phase }, { on := 2, ground := Ground.phase }, { on := 3, ground := Ground.phase }, { on := 4, ground := Ground.phase }, { on := 5, ground := Ground.phase }, { on := 6, ground := Ground.phase }, { on := 7, ground := Ground.phase }, { on := 8, ground := Ground.phase }, { on := 9, ground := Ground.phase }, { on := 10, ground := Ground.phase }, { on := 11, ground := Ground.phase }, { on := 12, ground := Ground.phase }, { on := 13, ground := Ground.phase }, { on := 14, ground := Ground.phase }, { on := 15, ground := Ground.phase }, { on := 16, ground := Ground.phase }, { on := 17, ground := Ground.phase }, { on := 18, ground := Ground.phase }, { on := 19, ground := Ground.textOnly Departure.lateStores }, { on := 20, ground := Ground.phase }], guard := none }) rfl (fun K hK => ?_); go_simp; refine hK.out _ _ (hS.out _ hb4) (fun hHeld => ?_); (clear hK K; (try simp only [Act.put, List.setIfInBounds_toArray, List.set_cons_zero, List.set_cons_succ])))
              clear q0 q1 z0 z1
              (refine wpAnyLT_take (i := 22) (oi := { dst := some 8, op := Op.assign (Operand.tmp 87), type := 32, pos := "farm.go:129", after := #[{ on := 19, ground := Ground.data }, { on := 21, ground := Ground.chain }, { on := 0, ground := Ground.phase }, { on := 1, ground := Ground.phase }, { on := 2, ground := Ground.phase }, { on := 3, ground := Ground.phase }, { on := 4, ground := Ground.phase }, { on := 5, ground := Ground.phase }, { on := 6, ground := Ground.phase }, { on := 7, ground := Ground.phase }, { on := 8, ground := Ground.phase }, { on := 9, ground := Ground.phase }, { on := 10, ground := Ground.phase }, { on := 11, ground := Ground.phase }, { on := 12, ground := Ground.phase }, { on := 13, ground := Ground.phase }, { on := 14, ground := Ground.phase }, { on := 15, ground := Ground.phase }, { on := 16, ground := Ground.phase }, { on := 17, ground := Ground.phase }, { on := 18, ground := Ground.phase }, { on := 19, ground := Ground.phase }, { on := 20, ground := Ground.phase }, { on := 21, ground := Ground.phase }], guard := none }) (v := ?_) rfl (by kernel_rfl) (by kernel_rfl) (by kernel_rfl) (fun _ _ _ h => h) (Or.inl ⟨by rfl, ?_⟩) (by assumption) (by kernel_rfl) (by rfl) (by kernel_rfl) ?_; rotate_left; (focus (intro w hSw; (try dsimp only at hSw); go_simp; (try with_reducible rfl))); (try simp only [Act.put, List.setIfInBounds_toArray, List.set_cons_zero, List.set_cons_succ]))
              refine wpAnyL_done (by kernel_rfl) ?_ _
              go_wp2
              go_meet
              exact ⟨q, _, _, rfl, rfl, (by show _ = _; rw [eq]), (kQ.set_ 0 _).set_ 1 _, (oq3.blk kQ (by decide) (by decide) (by decide) (by decide) _).blk (kQ.set_ 0 _) (by decide) (by decide) (by decide) (by decide) _, hb4⟩
          case rest =>
            clear c0 c1 d0 d1 p4 x1 x2 m1 m2 m3 m4 m5 m6 m7 m8 kF2 k5
            obtain ⟨q, n, gq, rfl, rfl, hj, kq, oq, hb6⟩ := hcut
            have h6 := h5.all hb6
            have hB6 := hB5.trans (hb6.mono hlt9)
            have kf6 := kf5.trans (KF.below hb6)
            by_cases hn0 : n = 0
            · subst hn0
              have HE := Lib.hid (finish_join HGD.out HX.out HL.out HND.out (by rw [gha.out, ghd.out]; exact hj.out))
              have q0 := kq.cell 0
              have q1 := kq.cell 1
              have SD := Lib.hid (send_any { f with wk := f.wk.set j (-1) } ⟨2, (j : Int), i, q⟩ base g wc h6 (oq.mono hlt9) n7)
              clear hj kq oq hb6 h6 h5 hYA hYD
              go_wp2_with fail
              refine SD.out.mono ?_
              rintro e w8 ⟨rfl, f8, h8, e8, hb8, kfs⟩
              have hB9 := hB6.trans hb8
              clear SD
              go_wp2
              go_ret
              exact ⟨ret_val (by rw [HE.out]; rfl), f8, h8, by rw [HE.out]; exact e8, hB9, kf6.trans kfs⟩
            · have HE := Lib.hid (finish_fail HGD.out HX.out HL.out HND.out (by rw [gha.out, ghd.out, hj.out]; exact hn0))
              have t1 : (n == 0) = false := by simpa using hn0
              clear hn0 kq oq hj
              go_wp2
              go_ret
              exact ⟨ret_val (by rw [HE.out]; rfl), _, h6, by rw [HE.out]; rfl, hB6, kf6⟩
end Go.Proofs.Ytkfmkemjoddinaa
