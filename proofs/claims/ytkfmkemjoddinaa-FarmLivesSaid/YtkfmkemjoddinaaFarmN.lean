/- farm.step: what it does, a kind of happening after the other. -/
import Derived.Test.YtkfmkemjoddinaaFarmL
set_option linter.all false
namespace Go.Proofs.Ytkfmkemjoddinaa
open Go.RowKit
set_option maxRecDepth 100000

theorem own_far_msg {w : World} {base size n g : Nat} {e : TypeId} {v : Value} {xs : List Value} {cs : Array Value} (h : w.ownsRow base e size v n xs) (hb : Blk w g 50 cs) (hne : e ≠ 50) (j : Nat) (u : Value) : (w.setCell ⟨g, j, none⟩ u).ownsRow base e size v n xs :=
  own_setCell h (own_blk_ne h hb hne) u
/-- A store into a message's box that is not in the farm's net. -/
theorem FB.off {w : World} {base g gM j : Nat} {f : FrM} {cs : Array Value} (h : FB w base g f) (hg : g ≠ gM) (hN : ∀ x, (Value.slice f.na f.nt.length f.nc).ownBlock = some x → x ≠ gM) (hb : Blk w gM 50 cs) (u : Value) : FB (w.setCell ⟨gM, j, none⟩ u) base g f :=
  ⟨h.blk.far (p := ⟨gM, j, none⟩) hg u, ⟨own_far_msg h.own.ps hb (by decide) j u, fun p hp => (h.own.pse p hp).blk hb (by decide) (by decide) (by decide) (by decide) u, own_far_msg h.own.pl hb (by decide) j u, own_far_msg h.own.dn hb (by decide) j u,
    own_far_msg h.own.hv hb (by decide) j u, fun p hp => (h.own.hve p hp).blk hb (by decide) (by decide) (by decide) (by decide) u, own_far_msg h.own.gs hb (by decide) j u, own_far_msg h.own.wk hb (by decide) j u,
    own_setCell h.own.nt (fun e => hN gM e rfl) u, fun m hm => (h.own.nte m hm).blk hb (by decide) (by decide) (by decide) (by decide) u, h.own.apart⟩, h.lo⟩
theorem offW {f : Frm} {K wo k : Int} (hK : K = 1 ∨ K = 2 ∨ K = 7) {b1 b2 : Bool} (h1 : decide (wo < 0) = b1) (h2 : decide ((f.wk.length : Int) ≤ wo) = b2) : (⟨K, wo, k⟩ : Hap).off f = (b1 || b2) := by
  unfold Hap.off; simp only; rw [if_pos hK, h1, h2]
theorem offK {f : Frm} {K wo k : Int} (hK : K = 3 ∨ K = 4 ∨ K = 5) {b1 b2 : Bool} (h1 : decide (k < 0) = b1) (h2 : decide ((f.nt.length : Int) ≤ k) = b2) : (⟨K, wo, k⟩ : Hap).off f = (b1 || b2) := by
  unfold Hap.off; simp only; rw [if_neg (by omega), if_pos hK, h1, h2]
theorem offN {f : Frm} {K wo k : Int} (h : ¬ (K = 1 ∨ K = 2 ∨ K = 7)) (h' : ¬ (K = 3 ∨ K = 4 ∨ K = 5)) : (⟨K, wo, k⟩ : Hap).off f = false := by
  unfold Hap.off; simp only; rw [if_neg h, if_neg h']
theorem stepP_off {f : Frm} {x : Hap} (h : x.off f = true) : stepP f x = (f, 5) := by unfold stepP; rw [if_pos h]
theorem stepP_1 {f : Frm} {wo k : Int} (h : (⟨1, wo, k⟩ : Hap).off f = false) : stepP f ⟨1, wo, k⟩ = giveP f wo := by unfold stepP; rw [h]; simp
theorem stepP_2 {f : Frm} {wo k : Int} (h : (⟨2, wo, k⟩ : Hap).off f = false) : stepP f ⟨2, wo, k⟩ = finishP f wo := by unfold stepP; rw [h]; simp
theorem stepP_3 {f : Frm} {wo k : Int} (h : (⟨3, wo, k⟩ : Hap).off f = false) : stepP f ⟨3, wo, k⟩ = (arriveP f k.toNat, 0) := by unfold stepP; rw [h]; simp
theorem stepP_4 {f : Frm} {wo k : Int} (h : (⟨4, wo, k⟩ : Hap).off f = false) : stepP f ⟨4, wo, k⟩ = ({ f with nt := f.nt.eraseIdx k.toNat }, 0) := by unfold stepP; rw [h]; simp
theorem stepP_5 {f : Frm} {wo k : Int} (h : (⟨5, wo, k⟩ : Hap).off f = false) : stepP f ⟨5, wo, k⟩ = if f.nt.length = 20 then (f, 10) else (sendP f (f.nt.getD k.toNat .none_), 0) := by unfold stepP; rw [h]; simp
theorem stepP_6 {f : Frm} {wo k : Int} : stepP f ⟨6, wo, k⟩ = if f.now = 65536 then (f, 10) else ({ f with now := f.now + 1 }, 0) := by unfold stepP; rw [offN (by omega) (by omega)]; simp
theorem stepP_7 {f : Frm} {wo k : Int} (h : (⟨7, wo, k⟩ : Hap).off f = false) : stepP f ⟨7, wo, k⟩ = ({ f with wk := f.wk.set wo.toNat (-1) }, 0) := by unfold stepP; rw [h]; simp
theorem stepP_8 {f : Frm} {wo k : Int} : stepP f ⟨8, wo, k⟩ = ({ f with gs := f.gs.map fun _ => .none_ }, 0) := by unfold stepP; rw [offN (by omega) (by omega)]; simp
theorem stepP_no {f : Frm} {K wo k : Int} (h : K < 1 ∨ 8 < K) : stepP f ⟨K, wo, k⟩ = (f, 4) := by
  unfold stepP; rw [offN (by omega) (by omega)]; simp only [Bool.false_eq_true, if_false]
  rw [if_neg (by omega), if_neg (by omega), if_neg (by omega), if_neg (by omega), if_neg (by omega), if_neg (by omega), if_neg (by omega), if_neg (by omega)]

set_option maxHeartbeats 20000000 in
theorem step_1 (f : FrM) (wo k : Int) (base g : Nat) (w : World) (h : FB w base g f) (hF : f.er.Fine) :
    Calls Try.prog 23 #[.pointer (some ⟨g, 0, none⟩), .agg #[.int .i64 1, .int .i64 wo, .int .i64 k]] w (StepIs w base g (stepP f.er ⟨1, wo, k⟩)) := by
  unfold StepIs
  have n6 : f.wk.length ≤ 4 := hF.w4
  have n7 : f.nt.length ≤ 20 := by have := hF.ln; simp only [FrM.er, List.length_map] at this; omega
  have hlo := h.lo
  have hlt := h.lt
  have hgl := h.blk.lt
  have kX := Blk.new w 31 #[.int .i64 1, .int .i64 wo, .int .i64 k]
  have hbx : Below w.heap.size w (w.alloc (.cells #[.int .i64 1, .int .i64 wo, .int .i64 k] 31)) := by (repeat' (first | exact Below.refl _ _ | assumption | refine Below.setCell ?_ (by first | omega | exact Below.size (by assumption) | (simp; done) | (simp; omega)) _ | refine Below.alloc ?_ (by first | omega | exact Below.size (by assumption) | (simp; done) | (simp; omega)) _ | refine Below.drew ?_ | refine below_drewN ?_ _))
  replace h := h.all hbx
  have hB := hbx.mono hlt
  have kf : KF g w (w.alloc (.cells #[.int .i64 1, .int .i64 wo, .int .i64 k] 31)) := KF.below hbx
  have HF := Lib.hid hF
  clear hF
  go_enter Try.func23, Try.ntmps23
  go_upto_region 1 with (fail)
  obtain ⟨gX, hgX⟩ : ∃ x, x = w.heap.size := ⟨_, rfl⟩
  obtain ⟨W, hW⟩ : ∃ x, x = w.alloc (.cells #[.int .i64 1, .int .i64 wo, .int .i64 k] 31) := ⟨_, rfl⟩
  rw [← hgX] at kX ⊢
  rw [← hW] at kX h hB kf ⊢
  have hgXg : gX ≠ g := by omega
  clear hW hgX hbx hlt hgl
  have kF := h.blk
  have x0 := kX.cell 0
  have x1 := kX.cell 1
  have x2 := kX.cell 2
  have q6 := kF.cell 6
  obtain ⟨b1, hb1⟩ : ∃ b, decide (wo < 0) = b := ⟨_, rfl⟩
  obtain ⟨b2, hb2⟩ : ∃ b, decide ((f.wk.length : Int) ≤ wo) = b := ⟨_, rfl⟩
  have HO := Lib.hid (offW (f := f.er) (K := 1) (k := k) (by omega) hb1 hb2)
  go_upto_region 5 with (fail)
  cases b1 with
  | true =>
    go_quiet (fail)
    have h4 := h.all (below_drewN (Below.refl W.heap.size W) nq)
    have hB4 := below_drewN hB nq
    have HE := Lib.hid (stepP_off (by rw [HO.out]; rfl))
    go_wp2
    go_ret
    exact ⟨ret_val (by rw [HE.out]; rfl), f, h4, by rw [HE.out], hB4, kf.trans (KF.drewN nq)⟩
  | false =>
    cases b2 with
    | true =>
      go_quiet (fail)
      have h4 := h.all (below_drewN (Below.refl W.heap.size W) nq)
      have hB4 := below_drewN hB nq
      have HE := Lib.hid (stepP_off (by rw [HO.out]; rfl))
      go_wp2
      go_ret
      exact ⟨ret_val (by rw [HE.out]; rfl), f, h4, by rw [HE.out], hB4, kf.trans (KF.drewN nq)⟩
    | false =>
      go_quiet (fail)
      have hdn : Below W.heap.size W (W.drewN nq) := below_drewN (Below.refl _ _) nq
      replace h := h.all hdn
      replace kX := kX.all hdn
      replace hB := below_drewN hB nq
      replace kf := kf.trans (KF.drewN nq)
      replace kF := kF.all hdn
      obtain ⟨W4, hW4⟩ : ∃ y, y = W.drewN nq := ⟨_, rfl⟩
      rw [← hW4] at h kX hB kF kf ⊢
      clear hW4 hdn x0 x1 x2 q6
      have x0 := kX.cell 0
      have x1 := kX.cell 1
      have x2 := kX.cell 2
      have HE := Lib.hid (stepP_1 (f := f.er) (wo := wo) (k := k) (by rw [HO.out]; rfl))
      have GV := Lib.hid (give_any f wo base g W4 h HF.out)
      obtain ⟨r, hr⟩ : ∃ r, giveP f.er wo = r := ⟨_, rfl⟩
      rw [hr] at GV HE
      clear hr
      go_wp2_with fail
      refine GV.out.mono ?_
      rintro e w5 ⟨rfl, f5, h5, e5, hb5, kf5⟩
      have hB5 := hB.trans hb5
      clear GV
      go_wp2
      go_ret
      exact ⟨ret_val (by rw [HE.out]; rfl), f5, h5, by rw [HE.out]; exact e5, hB5, kf.trans kf5⟩

set_option maxHeartbeats 20000000 in
theorem step_2 (f : FrM) (wo k : Int) (base g : Nat) (w : World) (h : FB w base g f) (hF : f.er.Fine) :
    Calls Try.prog 23 #[.pointer (some ⟨g, 0, none⟩), .agg #[.int .i64 2, .int .i64 wo, .int .i64 k]] w (StepIs w base g (stepP f.er ⟨2, wo, k⟩)) := by
  unfold StepIs
  have n6 : f.wk.length ≤ 4 := hF.w4
  have n7 : f.nt.length ≤ 20 := by have := hF.ln; simp only [FrM.er, List.length_map] at this; omega
  have hlo := h.lo
  have hlt := h.lt
  have hgl := h.blk.lt
  have kX := Blk.new w 31 #[.int .i64 2, .int .i64 wo, .int .i64 k]
  have hbx : Below w.heap.size w (w.alloc (.cells #[.int .i64 2, .int .i64 wo, .int .i64 k] 31)) := by (repeat' (first | exact Below.refl _ _ | assumption | refine Below.setCell ?_ (by first | omega | exact Below.size (by assumption) | (simp; done) | (simp; omega)) _ | refine Below.alloc ?_ (by first | omega | exact Below.size (by assumption) | (simp; done) | (simp; omega)) _ | refine Below.drew ?_ | refine below_drewN ?_ _))
  replace h := h.all hbx
  have hB := hbx.mono hlt
  have kf : KF g w (w.alloc (.cells #[.int .i64 2, .int .i64 wo, .int .i64 k] 31)) := KF.below hbx
  have HF := Lib.hid hF
  clear hF
  go_enter Try.func23, Try.ntmps23
  go_upto_region 1 with (fail)
  obtain ⟨gX, hgX⟩ : ∃ x, x = w.heap.size := ⟨_, rfl⟩
  obtain ⟨W, hW⟩ : ∃ x, x = w.alloc (.cells #[.int .i64 2, .int .i64 wo, .int .i64 k] 31) := ⟨_, rfl⟩
  rw [← hgX] at kX ⊢
  rw [← hW] at kX h hB kf ⊢
  have hgXg : gX ≠ g := by omega
  clear hW hgX hbx hlt hgl
  have kF := h.blk
  have x0 := kX.cell 0
  have x1 := kX.cell 1
  have x2 := kX.cell 2
  have q6 := kF.cell 6
  obtain ⟨b1, hb1⟩ : ∃ b, decide (wo < 0) = b := ⟨_, rfl⟩
  obtain ⟨b2, hb2⟩ : ∃ b, decide ((f.wk.length : Int) ≤ wo) = b := ⟨_, rfl⟩
  have HO := Lib.hid (offW (f := f.er) (K := 2) (k := k) (by omega) hb1 hb2)
  go_upto_region 5 with (fail)
  cases b1 with
  | true =>
    go_quiet (fail)
    have h4 := h.all (below_drewN (Below.refl W.heap.size W) nq)
    have hB4 := below_drewN hB nq
    have HE := Lib.hid (stepP_off (by rw [HO.out]; rfl))
    go_wp2
    go_ret
    exact ⟨ret_val (by rw [HE.out]; rfl), f, h4, by rw [HE.out], hB4, kf.trans (KF.drewN nq)⟩
  | false =>
    cases b2 with
    | true =>
      go_quiet (fail)
      have h4 := h.all (below_drewN (Below.refl W.heap.size W) nq)
      have hB4 := below_drewN hB nq
      have HE := Lib.hid (stepP_off (by rw [HO.out]; rfl))
      go_wp2
      go_ret
      exact ⟨ret_val (by rw [HE.out]; rfl), f, h4, by rw [HE.out], hB4, kf.trans (KF.drewN nq)⟩
    | false =>
      go_quiet (fail)
      have hdn : Below W.heap.size W (W.drewN nq) := below_drewN (Below.refl _ _) nq
      replace h := h.all hdn
      replace kX := kX.all hdn
      replace hB := below_drewN hB nq
      replace kf := kf.trans (KF.drewN nq)
      replace kF := kF.all hdn
      obtain ⟨W4, hW4⟩ : ∃ y, y = W.drewN nq := ⟨_, rfl⟩
      rw [← hW4] at h kX hB kF kf ⊢
      clear hW4 hdn x0 x1 x2 q6
      have x0 := kX.cell 0
      have x1 := kX.cell 1
      have x2 := kX.cell 2
      obtain ⟨j, hj⟩ : ∃ j : Nat, wo = j := ⟨wo.toNat, by have := of_decide_eq_false hb1; omega⟩
      have hjl : j < f.wk.length := by have := of_decide_eq_false hb2; omega
      subst hj
      have HE := Lib.hid (stepP_2 (f := f.er) (wo := (j : Int)) (k := k) (by rw [HO.out]; rfl))
      have GV := Lib.hid (finish_any f j base g W4 h HF.out hjl)
      obtain ⟨r, hr⟩ : ∃ r, finishP f.er (j : Int) = r := ⟨_, rfl⟩
      rw [hr] at GV HE
      clear hr
      go_wp2_with fail
      refine GV.out.mono ?_
      rintro e w5 ⟨rfl, f5, h5, e5, hb5, kf5⟩
      have hB5 := hB.trans hb5
      clear GV
      go_wp2
      go_ret
      exact ⟨ret_val (by rw [HE.out]; rfl), f5, h5, by rw [HE.out]; exact e5, hB5, kf.trans kf5⟩

set_option maxHeartbeats 20000000 in
theorem step_3 (f : FrM) (wo k : Int) (base g : Nat) (w : World) (h : FB w base g f) (hF : f.er.Fine) :
    Calls Try.prog 23 #[.pointer (some ⟨g, 0, none⟩), .agg #[.int .i64 3, .int .i64 wo, .int .i64 k]] w (StepIs w base g (stepP f.er ⟨3, wo, k⟩)) := by
  unfold StepIs
  have n6 : f.wk.length ≤ 4 := hF.w4
  have n7 : f.nt.length ≤ 20 := by have := hF.ln; simp only [FrM.er, List.length_map] at this; omega
  have hlo := h.lo
  have hlt := h.lt
  have hgl := h.blk.lt
  have kX := Blk.new w 31 #[.int .i64 3, .int .i64 wo, .int .i64 k]
  have hbx : Below w.heap.size w (w.alloc (.cells #[.int .i64 3, .int .i64 wo, .int .i64 k] 31)) := by (repeat' (first | exact Below.refl _ _ | assumption | refine Below.setCell ?_ (by first | omega | exact Below.size (by assumption) | (simp; done) | (simp; omega)) _ | refine Below.alloc ?_ (by first | omega | exact Below.size (by assumption) | (simp; done) | (simp; omega)) _ | refine Below.drew ?_ | refine below_drewN ?_ _))
  replace h := h.all hbx
  have hB := hbx.mono hlt
  have kf : KF g w (w.alloc (.cells #[.int .i64 3, .int .i64 wo, .int .i64 k] 31)) := KF.below hbx
  have HF := Lib.hid hF
  clear hF
  go_enter Try.func23, Try.ntmps23
  go_upto_region 1 with (fail)
  obtain ⟨gX, hgX⟩ : ∃ x, x = w.heap.size := ⟨_, rfl⟩
  obtain ⟨W, hW⟩ : ∃ x, x = w.alloc (.cells #[.int .i64 3, .int .i64 wo, .int .i64 k] 31) := ⟨_, rfl⟩
  rw [← hgX] at kX ⊢
  rw [← hW] at kX h hB kf ⊢
  have hgXg : gX ≠ g := by omega
  clear hW hgX hbx hlt hgl
  have kF := h.blk
  have x0 := kX.cell 0
  have x1 := kX.cell 1
  have x2 := kX.cell 2
  have q7 := kF.cell 7
  obtain ⟨b1, hb1⟩ : ∃ b, decide (k < 0) = b := ⟨_, rfl⟩
  obtain ⟨b2, hb2⟩ : ∃ b, decide ((f.nt.length : Int) ≤ k) = b := ⟨_, rfl⟩
  have HO := Lib.hid (offK (f := f.er) (K := 3) (wo := wo) (by omega) hb1 (show decide ((f.er.nt.length : Int) ≤ k) = b2 by simp only [FrM.er, List.length_map]; exact hb2))
  go_upto_region 10 with (fail)
  cases b1 with
  | true =>
    go_quiet (fail)
    have h4 := h.all (below_drewN (Below.refl W.heap.size W) nq)
    have hB4 := below_drewN hB nq
    have HE := Lib.hid (stepP_off (by rw [HO.out]; rfl))
    go_wp2
    go_ret
    exact ⟨ret_val (by rw [HE.out]; rfl), f, h4, by rw [HE.out], hB4, kf.trans (KF.drewN nq)⟩
  | false =>
    cases b2 with
    | true =>
      go_quiet (fail)
      have h4 := h.all (below_drewN (Below.refl W.heap.size W) nq)
      have hB4 := below_drewN hB nq
      have HE := Lib.hid (stepP_off (by rw [HO.out]; rfl))
      go_wp2
      go_ret
      exact ⟨ret_val (by rw [HE.out]; rfl), f, h4, by rw [HE.out], hB4, kf.trans (KF.drewN nq)⟩
    | false =>
      go_quiet (fail)
      have hdn : Below W.heap.size W (W.drewN nq) := below_drewN (Below.refl _ _) nq
      replace h := h.all hdn
      replace kX := kX.all hdn
      replace hB := below_drewN hB nq
      replace kf := kf.trans (KF.drewN nq)
      replace kF := kF.all hdn
      obtain ⟨W4, hW4⟩ : ∃ y, y = W.drewN nq := ⟨_, rfl⟩
      rw [← hW4] at h kX hB kF kf ⊢
      clear hW4 hdn x0 x1 x2 q7
      have x0 := kX.cell 0
      have x1 := kX.cell 1
      have x2 := kX.cell 2
      obtain ⟨j, hj⟩ : ∃ j : Nat, k = j := ⟨k.toNat, by have := of_decide_eq_false hb1; omega⟩
      have hjl : j < f.nt.length := by have := of_decide_eq_false hb2; omega
      subst hj
      have HE := Lib.hid (stepP_3 (f := f.er) (wo := wo) (k := (j : Int)) (by rw [HO.out]; rfl))
      have GV := Lib.hid (arrive_any f j base g W4 h HF.out hjl)
      go_wp2_with fail
      refine GV.out.mono ?_
      rintro e w5 ⟨rfl, f5, h5, e5, hb5, kf5⟩
      have hB5 := hB.trans hb5
      clear GV
      go_wp2
      go_ret
      exact ⟨ret_val (by rw [HE.out]; rfl), f5, h5, by rw [HE.out]; exact e5, hB5, kf.trans kf5⟩

set_option maxHeartbeats 20000000 in
theorem step_4 (f : FrM) (wo k : Int) (base g : Nat) (w : World) (h : FB w base g f) (hF : f.er.Fine) :
    Calls Try.prog 23 #[.pointer (some ⟨g, 0, none⟩), .agg #[.int .i64 4, .int .i64 wo, .int .i64 k]] w (StepIs w base g (stepP f.er ⟨4, wo, k⟩)) := by
  unfold StepIs
  have n6 : f.wk.length ≤ 4 := hF.w4
  have n7 : f.nt.length ≤ 20 := by have := hF.ln; simp only [FrM.er, List.length_map] at this; omega
  have hlo := h.lo
  have hlt := h.lt
  have hgl := h.blk.lt
  have kX := Blk.new w 31 #[.int .i64 4, .int .i64 wo, .int .i64 k]
  have hbx : Below w.heap.size w (w.alloc (.cells #[.int .i64 4, .int .i64 wo, .int .i64 k] 31)) := by (repeat' (first | exact Below.refl _ _ | assumption | refine Below.setCell ?_ (by first | omega | exact Below.size (by assumption) | (simp; done) | (simp; omega)) _ | refine Below.alloc ?_ (by first | omega | exact Below.size (by assumption) | (simp; done) | (simp; omega)) _ | refine Below.drew ?_ | refine below_drewN ?_ _))
  replace h := h.all hbx
  have hB := hbx.mono hlt
  have kf : KF g w (w.alloc (.cells #[.int .i64 4, .int .i64 wo, .int .i64 k] 31)) := KF.below hbx
  have HF := Lib.hid hF
  clear hF
  go_enter Try.func23, Try.ntmps23
  go_upto_region 1 with (fail)
  obtain ⟨gX, hgX⟩ : ∃ x, x = w.heap.size := ⟨_, rfl⟩
  obtain ⟨W, hW⟩ : ∃ x, x = w.alloc (.cells #[.int .i64 4, .int .i64 wo, .int .i64 k] 31) := ⟨_, rfl⟩
  rw [← hgX] at kX ⊢
  rw [← hW] at kX h hB kf ⊢
  have hgXg : gX ≠ g := by omega
  clear hW hgX hbx hlt hgl
  have kF := h.blk
  have x0 := kX.cell 0
  have x1 := kX.cell 1
  have x2 := kX.cell 2
  have q7 := kF.cell 7
  obtain ⟨b1, hb1⟩ : ∃ b, decide (k < 0) = b := ⟨_, rfl⟩
  obtain ⟨b2, hb2⟩ : ∃ b, decide ((f.nt.length : Int) ≤ k) = b := ⟨_, rfl⟩
  have HO := Lib.hid (offK (f := f.er) (K := 4) (wo := wo) (by omega) hb1 (show decide ((f.er.nt.length : Int) ≤ k) = b2 by simp only [FrM.er, List.length_map]; exact hb2))
  go_upto_region 10 with (fail)
  cases b1 with
  | true =>
    go_quiet (fail)
    have h4 := h.all (below_drewN (Below.refl W.heap.size W) nq)
    have hB4 := below_drewN hB nq
    have HE := Lib.hid (stepP_off (by rw [HO.out]; rfl))
    go_wp2
    go_ret
    exact ⟨ret_val (by rw [HE.out]; rfl), f, h4, by rw [HE.out], hB4, kf.trans (KF.drewN nq)⟩
  | false =>
    cases b2 with
    | true =>
      go_quiet (fail)
      have h4 := h.all (below_drewN (Below.refl W.heap.size W) nq)
      have hB4 := below_drewN hB nq
      have HE := Lib.hid (stepP_off (by rw [HO.out]; rfl))
      go_wp2
      go_ret
      exact ⟨ret_val (by rw [HE.out]; rfl), f, h4, by rw [HE.out], hB4, kf.trans (KF.drewN nq)⟩
    | false =>
      go_quiet (fail)
      have hdn : Below W.heap.size W (W.drewN nq) := below_drewN (Below.refl _ _) nq
      replace h := h.all hdn
      replace kX := kX.all hdn
      replace hB := below_drewN hB nq
      replace kf := kf.trans (KF.drewN nq)
      replace kF := kF.all hdn
      obtain ⟨W4, hW4⟩ : ∃ y, y = W.drewN nq := ⟨_, rfl⟩
      rw [← hW4] at h kX hB kF kf ⊢
      clear hW4 hdn x0 x1 x2 q7
      have x0 := kX.cell 0
      have x1 := kX.cell 1
      have x2 := kX.cell 2
      obtain ⟨j, hj⟩ : ∃ j : Nat, k = j := ⟨k.toNat, by have := of_decide_eq_false hb1; omega⟩
      have hjl : j < f.nt.length := by have := of_decide_eq_false hb2; omega
      subst hj
      have HE := Lib.hid (stepP_4 (f := f.er) (wo := wo) (k := (j : Int)) (by rw [HO.out]; rfl))
      have hS : Hid (∀ w', Below W4.heap.size W4 w' → (w'.cell? ⟨g, 7, none⟩ = some (.slice f.na f.nt.length f.nc) ∧ w'.cell? ⟨gX, 2, none⟩ = some (.int .i64 (j : Int)))) := fun w' h => ⟨(kF.all h).cell 7, (kX.all h).cell 2⟩
      have hb := (Below.refl W4.heap.size W4).drew
      clear hb1 hb2
      go_upto_region 21 with (fail)
      refine wp_region_late (S := (fun w' => w'.cell? ⟨g, 7, none⟩ = some (.slice f.na f.nt.length f.nc) ∧ w'.cell? ⟨gX, 2, none⟩ = some (.int .i64 (j : Int)))) [11, 12, 13] (by kernel_rfl) (hS.out _ hb) (fun hHeld => ?_)
      obtain ⟨wv, hwv⟩ : ∃ x, x = W4.drew := ⟨_, rfl⟩
      rw [← hwv] at hb hHeld ⊢
      clear hwv x0 x1 x2
      (refine wpAnyLT_take (i := 0) (oi := { dst := some 64, op := Op.move (Operand.tmp 0), type := 69, pos := "farm.go:171", after := #[], guard := none }) (v := ?_) rfl (by kernel_rfl) (by kernel_rfl) (by kernel_rfl) (fun _ _ _ h => h) (Or.inl ⟨by rfl, ?_⟩) (by assumption) (by kernel_rfl) (by rfl) (by kernel_rfl) ?_; rotate_left; (focus (intro w hSw; (try dsimp only at hSw); go_simp; (try with_reducible rfl))); (try simp only [Act.put, List.setIfInBounds_toArray, List.set_cons_zero, List.set_cons_succ]))
      (refine wpAnyLT_take (i := 1) (oi := { dst := some 65, op := Op.move (Operand.tmp 0), type := 69, pos := "farm.go:171", after := #[], guard := none }) (v := ?_) rfl (by kernel_rfl) (by kernel_rfl) (by kernel_rfl) (fun _ _ _ h => h) (Or.inl ⟨by rfl, ?_⟩) (by assumption) (by kernel_rfl) (by rfl) (by kernel_rfl) ?_; rotate_left; (focus (intro w hSw; (try dsimp only at hSw); go_simp; (try with_reducible rfl))); (try simp only [Act.put, List.setIfInBounds_toArray, List.set_cons_zero, List.set_cons_succ]))
      (refine wpAnyLT_take (i := 2) (oi := { dst := some 66, op := Op.nilCheck (Operand.tmp 65), type := 0, pos := "farm.go:171", after := #[{ on := 1, ground := Ground.data }], guard := none }) (v := ?_) rfl (by kernel_rfl) (by kernel_rfl) (by kernel_rfl) (fun _ _ _ h => h) (Or.inl ⟨by rfl, ?_⟩) (by assumption) (by kernel_rfl) (by rfl) (by kernel_rfl) ?_; rotate_left; (focus (intro w hSw; (try dsimp only at hSw); go_simp; (try with_reducible rfl))); (try simp only [Act.put, List.setIfInBounds_toArray, List.set_cons_zero, List.set_cons_succ]))
      (refine wpAnyLT_take (i := 3) (oi := { dst := some 67, op := Op.fieldAddr 29 (Operand.tmp 66) 7, type := 0, pos := "farm.go:171", after := #[{ on := 2, ground := Ground.data }], guard := none }) (v := ?_) rfl (by kernel_rfl) (by kernel_rfl) (by kernel_rfl) (fun _ _ _ h => h) (Or.inl ⟨by rfl, ?_⟩) (by assumption) (by kernel_rfl) (by rfl) (by kernel_rfl) ?_; rotate_left; (focus (intro w hSw; (try dsimp only at hSw); go_simp; (try with_reducible rfl))); (try simp only [Act.put, List.setIfInBounds_toArray, List.set_cons_zero, List.set_cons_succ]))
      (refine wpAnyLT_take (i := 4) (oi := { dst := some 68, op := Op.load 27 (Operand.tmp 67), type := 27, pos := "farm.go:171", after := #[{ on := 3, ground := Ground.data }], guard := none }) (v := ?_) rfl (by kernel_rfl) (by kernel_rfl) (by kernel_rfl) (fun _ _ _ h => h) (Or.inl ⟨by rfl, ?_⟩) (by assumption) (by kernel_rfl) (by rfl) (by kernel_rfl) ?_; rotate_left; (focus (intro w hSw; (try dsimp only at hSw); go_simp; (try with_reducible rfl))); (try simp only [Act.put, List.setIfInBounds_toArray, List.set_cons_zero, List.set_cons_succ]))
      (refine wpAnyLT_take (i := 5) (oi := { dst := some 69, op := Op.fieldAddr 31 (Operand.tmp 3) 2, type := 0, pos := "farm.go:171", after := #[], guard := none }) (v := ?_) rfl (by kernel_rfl) (by kernel_rfl) (by kernel_rfl) (fun _ _ _ h => h) (Or.inl ⟨by rfl, ?_⟩) (by assumption) (by kernel_rfl) (by rfl) (by kernel_rfl) ?_; rotate_left; (focus (intro w hSw; (try dsimp only at hSw); go_simp; (try with_reducible rfl))); (try simp only [Act.put, List.setIfInBounds_toArray, List.set_cons_zero, List.set_cons_succ]))
      (refine wpAnyLT_take (i := 6) (oi := { dst := some 70, op := Op.load 3 (Operand.tmp 69), type := 3, pos := "farm.go:171", after := #[{ on := 5, ground := Ground.data }], guard := none }) (v := ?_) rfl (by kernel_rfl) (by kernel_rfl) (by kernel_rfl) (fun _ _ _ h => h) (Or.inl ⟨by rfl, ?_⟩) (by assumption) (by kernel_rfl) (by rfl) (by kernel_rfl) ?_; rotate_left; (focus (intro w hSw; (try dsimp only at hSw); go_simp; (try with_reducible rfl))); (try simp only [Act.put, List.setIfInBounds_toArray, List.set_cons_zero, List.set_cons_succ]))
      (refine wpAnyLT_take (i := 7) (oi := { dst := some 71, op := Op.fieldAddr 31 (Operand.tmp 3) 2, type := 0, pos := "farm.go:171", after := #[], guard := none }) (v := ?_) rfl (by kernel_rfl) (by kernel_rfl) (by kernel_rfl) (fun _ _ _ h => h) (Or.inl ⟨by rfl, ?_⟩) (by assumption) (by kernel_rfl) (by rfl) (by kernel_rfl) ?_; rotate_left; (focus (intro w hSw; (try dsimp only at hSw); go_simp; (try with_reducible rfl))); (try simp only [Act.put, List.setIfInBounds_toArray, List.set_cons_zero, List.set_cons_succ]))
      (refine wpAnyLT_take (i := 8) (oi := { dst := some 72, op := Op.load 3 (Operand.tmp 71), type := 3, pos := "farm.go:171", after := #[{ on := 7, ground := Ground.data }], guard := none }) (v := ?_) rfl (by kernel_rfl) (by kernel_rfl) (by kernel_rfl) (fun _ _ _ h => h) (Or.inl ⟨by rfl, ?_⟩) (by assumption) (by kernel_rfl) (by rfl) (by kernel_rfl) ?_; rotate_left; (focus (intro w hSw; (try dsimp only at hSw); go_simp; (try with_reducible rfl))); (try simp only [Act.put, List.setIfInBounds_toArray, List.set_cons_zero, List.set_cons_succ]))
      (refine wpAnyLT_take (i := 9) (oi := { dst := some 73, op := Op.binOp BinOp.add 3 (Operand.tmp 72) (Operand.const (Value.int IntKind.i64 1)) 3, type := 3, pos := "farm.go:171", after := #[{ on := 8, ground := Ground.data }], guard := none }) (v := ?_) rfl (by kernel_rfl) (by kernel_rfl) (by kernel_rfl) (fun _ _ _ h => h) (Or.inl ⟨by rfl, ?_⟩) (by assumption) (by kernel_rfl) (by rfl) (by kernel_rfl) ?_; rotate_left; (focus (intro w hSw; (try dsimp only at hSw); go_simp; (try with_reducible rfl))); (try simp only [Act.put, List.setIfInBounds_toArray, List.set_cons_zero, List.set_cons_succ]))
      have h4 := h.all hb
      have hB4 := hB.trans (hb.mono h.lt)
      have DL := Lib.hid (deleteMsg_any base f.na f.nc f.nt j wv h4.own.nt hjl (by omega))
      (refine wpAnyL_ready (rs := [10]) (by kernel_rfl) (by simp) ?_; refine List.forall_mem_cons.2 ⟨?_, fun _ h => by cases h⟩)
      refine stepL (o := { dst := some 74, op := Op.call { callee := Callee.value (Operand.func 53), args := #[Operand.tmp 68, Operand.tmp 70, Operand.tmp 73], argTypes := #[27, 3, 3] }, type := 27, pos := "farm.go:171", after := #[{ on := 4, ground := Ground.data }, { on := 6, ground := Ground.data }, { on := 9, ground := Ground.data }], guard := none }) rfl (fun K hK => ?_)
      (try go_simp)
      go_at_call 53
      have HW1 : Hid (IntKind.i64.wrap ((j : Int) + 1) = (j : Int) + 1) := by show _ = _; rw [IntKind.wrap_i64]; omega
      rw [HW1.out]
      refine DL.out.mono ?_
      rintro e w2 ⟨rfl, o2, hg2⟩
      have hn2 : (f.nt.eraseIdx j).length = f.nt.length - 1 := List.length_eraseIdx_of_lt hjl
      have hO2 := h4.own.net (nt := f.nt.eraseIdx j) (na := f.na) (nc := f.nc) hg2 (by rw [hn2]; exact o2) (fun y hy => (h4.own.nte y (List.mem_of_mem_eraseIdx hy)).kept_ty h4.own.nt (by decide) (by decide) (by decide) (by decide) hg2)
      have kF2 := h4.blk.grown hg2 (own_blk_ne h4.own.nt h4.blk (by decide)).symm
      have kX2 := (kX.all hb).grown hg2 (own_blk_ne h4.own.nt (kX.all hb) (by decide)).symm
      have r7 := kF2.cell 7
      have f7 := kF2.frozen 7
      have kZ := kF2.set_ 7 (.slice f.na (f.nt.length - 1) f.nc)
      simp only [List.setIfInBounds_toArray, List.set_cons_zero, List.set_cons_succ] at kZ
      have h3 : FB (w2.setCell ⟨g, 7, none⟩ (.slice f.na (f.nt.length - 1) f.nc)) base g { f with nt := f.nt.eraseIdx j } := ⟨by simp only [hn2]; exact kZ, hO2.box kF2 _, hlo⟩
      have hB3 := (hB4.grown hg2 h4.lt (fun x hx => (h4.own.nt.lt x hx).1)).setCell (p := ⟨g, 7, none⟩) hlo (.slice f.na (f.nt.length - 1) f.nc)
      go_wp2_with fail
      refine hK.out _ _ ⟨kF2.cell 7, kX2.cell 2⟩ (fun hHeld => ?_)
      (clear hK K; (try simp only [Act.put, List.setIfInBounds_toArray, List.set_cons_zero, List.set_cons_succ]))
      have kf3 := ((kf.trans (KF.below hb)).trans (KF.row h4.own.nt (by decide) hg2)).trans (KF.box (j := 7) (u := .slice f.na (f.nt.length - 1) f.nc))
      clear DL hg2 hO2 kZ kF2 o2 kX2 kX kF h h4 hB hB4 hb hS
      (refine wpAnyL_ready (rs := [11]) (by kernel_rfl) (by simp) ?_; refine List.forall_mem_cons.2 ⟨stepLate (o := { dst := some 75, op := Op.nilCheck (Operand.tmp 64), type := 0, pos := "farm.go:171", after := #[{ on := 0, ground := Ground.data }, { on := 0, ground := Ground.phase }, { on := 1, ground := Ground.phase }, { on := 2, ground := Ground.phase }, { on := 3, ground := Ground.phase }, { on := 4, ground := Ground.phase }, { on := 5, ground := Ground.phase }, { on := 6, ground := Ground.phase }, { on := 7, ground := Ground.phase }, { on := 8, ground := Ground.phase }, { on := 9, ground := Ground.phase }, { on := 10, ground := Ground.phase }], guard := none }) rfl (by rfl) (fun K hK => ?_), fun _ h => by cases h⟩; go_simp; refine hK.out _ _ ?_; (clear hK K; (try simp only [Act.put, List.setIfInBounds_toArray, List.set_cons_zero, List.set_cons_succ])))
      (refine wpAnyL_ready (rs := [12]) (by kernel_rfl) (by simp) ?_; refine List.forall_mem_cons.2 ⟨stepLate (o := { dst := some 76, op := Op.fieldAddr 29 (Operand.tmp 75) 7, type := 0, pos := "farm.go:171", after := #[{ on := 11, ground := Ground.data }, { on := 0, ground := Ground.phase }, { on := 1, ground := Ground.phase }, { on := 2, ground := Ground.phase }, { on := 3, ground := Ground.phase }, { on := 4, ground := Ground.phase }, { on := 5, ground := Ground.phase }, { on := 6, ground := Ground.phase }, { on := 7, ground := Ground.phase }, { on := 8, ground := Ground.phase }, { on := 9, ground := Ground.phase }, { on := 10, ground := Ground.phase }], guard := none }) rfl (by rfl) (fun K hK => ?_), fun _ h => by cases h⟩; go_simp; refine hK.out _ _ ?_; (clear hK K; (try simp only [Act.put, List.setIfInBounds_toArray, List.set_cons_zero, List.set_cons_succ])))
      (refine wpAnyL_ready (rs := [13]) (by kernel_rfl) (by simp) ?_; refine List.forall_mem_cons.2 ⟨stepLate (o := { dst := none, op := Op.store 27 (Operand.tmp 76) (Operand.tmp 74), type := 0, pos := "farm.go:171", after := #[{ on := 12, ground := Ground.data }, { on := 10, ground := Ground.data }, { on := 10, ground := Ground.chain }, { on := 0, ground := Ground.phase }, { on := 1, ground := Ground.phase }, { on := 2, ground := Ground.phase }, { on := 3, ground := Ground.phase }, { on := 4, ground := Ground.phase }, { on := 5, ground := Ground.phase }, { on := 6, ground := Ground.phase }, { on := 7, ground := Ground.phase }, { on := 8, ground := Ground.phase }, { on := 9, ground := Ground.phase }, { on := 10, ground := Ground.phase }], guard := none }) rfl (by rfl) (fun K hK => ?_), fun _ h => by cases h⟩; go_simp; refine hK.out _ _ ?_; (clear hK K; (try simp only [Act.put, List.setIfInBounds_toArray, List.set_cons_zero, List.set_cons_succ])))
      refine wpAnyL_done (by kernel_rfl) ?_ _
      go_wp2
      go_ret
      exact ⟨ret_val (by rw [HE.out]; rfl), _, h3, by rw [HE.out]; simp only [FrM.er, Int.toNat_natCast, map_erase], hB3, kf3⟩

set_option maxHeartbeats 20000000 in
theorem step_5 (f : FrM) (wo k : Int) (base g : Nat) (w : World) (h : FB w base g f) (hF : f.er.Fine) :
    Calls Try.prog 23 #[.pointer (some ⟨g, 0, none⟩), .agg #[.int .i64 5, .int .i64 wo, .int .i64 k]] w (StepIs w base g (stepP f.er ⟨5, wo, k⟩)) := by
  unfold StepIs
  have n6 : f.wk.length ≤ 4 := hF.w4
  have n7 : f.nt.length ≤ 20 := by have := hF.ln; simp only [FrM.er, List.length_map] at this; omega
  have hlo := h.lo
  have hlt := h.lt
  have hgl := h.blk.lt
  have kX := Blk.new w 31 #[.int .i64 5, .int .i64 wo, .int .i64 k]
  have hbx : Below w.heap.size w (w.alloc (.cells #[.int .i64 5, .int .i64 wo, .int .i64 k] 31)) := by (repeat' (first | exact Below.refl _ _ | assumption | refine Below.setCell ?_ (by first | omega | exact Below.size (by assumption) | (simp; done) | (simp; omega)) _ | refine Below.alloc ?_ (by first | omega | exact Below.size (by assumption) | (simp; done) | (simp; omega)) _ | refine Below.drew ?_ | refine below_drewN ?_ _))
  replace h := h.all hbx
  have hB := hbx.mono hlt
  have kf : KF g w (w.alloc (.cells #[.int .i64 5, .int .i64 wo, .int .i64 k] 31)) := KF.below hbx
  have HF := Lib.hid hF
  clear hF
  go_enter Try.func23, Try.ntmps23
  go_upto_region 1 with (fail)
  obtain ⟨gX, hgX⟩ : ∃ x, x = w.heap.size := ⟨_, rfl⟩
  obtain ⟨W, hW⟩ : ∃ x, x = w.alloc (.cells #[.int .i64 5, .int .i64 wo, .int .i64 k] 31) := ⟨_, rfl⟩
  rw [← hgX] at kX ⊢
  rw [← hW] at kX h hB kf ⊢
  have hgXg : gX ≠ g := by omega
  clear hW hgX hbx hlt hgl
  have kF := h.blk
  have x0 := kX.cell 0
  have x1 := kX.cell 1
  have x2 := kX.cell 2
  have q7 := kF.cell 7
  obtain ⟨b1, hb1⟩ : ∃ b, decide (k < 0) = b := ⟨_, rfl⟩
  obtain ⟨b2, hb2⟩ : ∃ b, decide ((f.nt.length : Int) ≤ k) = b := ⟨_, rfl⟩
  have HO := Lib.hid (offK (f := f.er) (K := 5) (wo := wo) (by omega) hb1 (show decide ((f.er.nt.length : Int) ≤ k) = b2 by simp only [FrM.er, List.length_map]; exact hb2))
  go_upto_region 10 with (fail)
  cases b1 with
  | true =>
    go_quiet (fail)
    have h4 := h.all (below_drewN (Below.refl W.heap.size W) nq)
    have hB4 := below_drewN hB nq
    have HE := Lib.hid (stepP_off (by rw [HO.out]; rfl))
    go_wp2
    go_ret
    exact ⟨ret_val (by rw [HE.out]; rfl), f, h4, by rw [HE.out], hB4, kf.trans (KF.drewN nq)⟩
  | false =>
    cases b2 with
    | true =>
      go_quiet (fail)
      have h4 := h.all (below_drewN (Below.refl W.heap.size W) nq)
      have hB4 := below_drewN hB nq
      have HE := Lib.hid (stepP_off (by rw [HO.out]; rfl))
      go_wp2
      go_ret
      exact ⟨ret_val (by rw [HE.out]; rfl), f, h4, by rw [HE.out], hB4, kf.trans (KF.drewN nq)⟩
    | false =>
      go_quiet (fail)
      have hdn : Below W.heap.size W (W.drewN nq) := below_drewN (Below.refl _ _) nq
      replace h := h.all hdn
      replace kX := kX.all hdn
      replace hB := below_drewN hB nq
      replace kf := kf.trans (KF.drewN nq)
      replace kF := kF.all hdn
      obtain ⟨W4, hW4⟩ : ∃ y, y = W.drewN nq := ⟨_, rfl⟩
      rw [← hW4] at h kX hB kF kf ⊢
      clear hW4 hdn x0 x1 x2 q7
      have x0 := kX.cell 0
      have x1 := kX.cell 1
      have x2 := kX.cell 2
      obtain ⟨j, hj⟩ : ∃ j : Nat, k = j := ⟨k.toNat, by have := of_decide_eq_false hb1; omega⟩
      have hjl : j < f.nt.length := by have := of_decide_eq_false hb2; omega
      subst hj
      have HE := Lib.hid (stepP_5 (f := f.er) (wo := wo) (k := (j : Int)) (by rw [HO.out]; rfl))
      have hnl : f.er.nt.length = f.nt.length := by simp [FrM.er]
      rw [hnl] at HE
      clear hnl hb1 hb2
      have q7 := kF.cell 7
      by_cases hfull : f.nt.length = 20
      · have hD : ((f.nt.length : Int) == 20) = true := by rw [hfull]; rfl
        rw [if_pos hfull] at HE
        clear hfull
        go_wp2
        go_ret
        exact ⟨ret_val (by rw [HE.out]; rfl), f, h, by rw [HE.out], hB, kf⟩
      · have hD : ((f.nt.length : Int) == 20) = false := by simp; omega
        rw [if_neg hfull, Int.toNat_natCast] at HE
        obtain ⟨m, hm⟩ : ∃ m, f.nt[j]? = some m := ⟨_, List.getElem?_eq_getElem hjl⟩
        have hme : f.er.nt[j]? = some m.er := by simp only [FrM.er, List.getElem?_map, hm]; rfl
        rw [getD_of _ hme] at HE
        have hms := small_of (HF.out.ms m.er (List.mem_of_getElem? hme)).2.2.2.2.2
        have hmo := h.own.nte m (List.mem_of_getElem? hm)
        obtain ⟨gN, capN, hvN, hgN0, hgN1⟩ := h.own.nt.form (by omega)
        injection hvN with hvN _ hcN
        subst hcN
        have hR := Reads.of_own h.own.nt
        rw [hvN] at hR
        obtain ⟨b0, o0, ez, blN, d0, d1, d2, d3, d4⟩ := ms_get hR hm
        injection ez with ez
        injection ez with e1 e2
        subst e1 e2
        simp only [Nat.zero_add] at d0 d1 d2 d3 d4
        rw [hvN] at kF q7
        have hk2 : (j : Int) < (f.nt.length : Int) := by omega
        have HVN := Lib.hid hvN
        have hS : Hid (∀ w', Below W4.heap.size W4 w' → (w'.cell? ⟨g, 7, none⟩ = some (.slice (some ⟨gN, 0, none⟩) f.nt.length f.nc) ∧ w'.cell? ⟨gX, 2, none⟩ = some (.int .i64 (j : Int)) ∧ w'.cell? ⟨gN, j * 5, none⟩ = some (.int .i64 m.kind) ∧ w'.cell? ⟨gN, j * 5 + 1, none⟩ = some (.int .i64 m.worker) ∧ w'.cell? ⟨gN, j * 5 + 2, none⟩ = some (.int .i64 m.n) ∧ w'.cell? ⟨gN, j * 5 + 3, none⟩ = some (.slice m.p.fa m.p.frs.length m.p.fc) ∧ w'.cell? ⟨gN, j * 5 + 4, none⟩ = some (.slice m.p.da m.p.dfs.length m.p.dc))) := fun w' h => ⟨(kF.all h).cell 7, (kX.all h).cell 2, (h.cell (p := ⟨gN, j * 5, none⟩) blN).trans d0, (h.cell (p := ⟨gN, j * 5 + 1, none⟩) blN).trans d1, (h.cell (p := ⟨gN, j * 5 + 2, none⟩) blN).trans d2, (h.cell (p := ⟨gN, j * 5 + 3, none⟩) blN).trans d3, (h.cell (p := ⟨gN, j * 5 + 4, none⟩) blN).trans d4⟩
        have hb := (Below.refl W4.heap.size W4).drew
        clear hm hme hR hvN hfull
        go_upto_region 25 with (fail)
        refine wp_region_late (S := (fun w' => w'.cell? ⟨g, 7, none⟩ = some (.slice (some ⟨gN, 0, none⟩) f.nt.length f.nc) ∧ w'.cell? ⟨gX, 2, none⟩ = some (.int .i64 (j : Int)) ∧ w'.cell? ⟨gN, j * 5, none⟩ = some (.int .i64 m.kind) ∧ w'.cell? ⟨gN, j * 5 + 1, none⟩ = some (.int .i64 m.worker) ∧ w'.cell? ⟨gN, j * 5 + 2, none⟩ = some (.int .i64 m.n) ∧ w'.cell? ⟨gN, j * 5 + 3, none⟩ = some (.slice m.p.fa m.p.frs.length m.p.fc) ∧ w'.cell? ⟨gN, j * 5 + 4, none⟩ = some (.slice m.p.da m.p.dfs.length m.p.dc))) [] (by kernel_rfl) (hS.out _ hb) (fun hHeld => ?_)
        obtain ⟨wv, hwv⟩ : ∃ x, x = W4.drew := ⟨_, rfl⟩
        rw [← hwv] at hb hHeld ⊢
        clear hwv x0 x1 x2 q7 d0 d1 d2 d3 d4
        (refine wpAnyLT_take (i := 0) (oi := { dst := some 85, op := Op.move (Operand.tmp 0), type := 69, pos := "farm.go:176", after := #[], guard := none }) (v := ?_) rfl (by kernel_rfl) (by kernel_rfl) (by kernel_rfl) (fun _ _ _ h => h) (Or.inl ⟨by rfl, ?_⟩) (by assumption) (by kernel_rfl) (by rfl) (by kernel_rfl) ?_; rotate_left; (focus (intro w hSw; (try dsimp only at hSw); go_simp; (try with_reducible rfl))); (try simp only [Act.put, List.setIfInBounds_toArray, List.set_cons_zero, List.set_cons_succ]))
        (refine wpAnyLT_take (i := 1) (oi := { dst := some 86, op := Op.nilCheck (Operand.tmp 85), type := 0, pos := "farm.go:176", after := #[{ on := 0, ground := Ground.data }], guard := none }) (v := ?_) rfl (by kernel_rfl) (by kernel_rfl) (by kernel_rfl) (fun _ _ _ h => h) (Or.inl ⟨by rfl, ?_⟩) (by assumption) (by kernel_rfl) (by rfl) (by kernel_rfl) ?_; rotate_left; (focus (intro w hSw; (try dsimp only at hSw); go_simp; (try with_reducible rfl))); (try simp only [Act.put, List.setIfInBounds_toArray, List.set_cons_zero, List.set_cons_succ]))
        (refine wpAnyLT_take (i := 2) (oi := { dst := some 87, op := Op.fieldAddr 29 (Operand.tmp 86) 7, type := 0, pos := "farm.go:176", after := #[{ on := 1, ground := Ground.data }], guard := none }) (v := ?_) rfl (by kernel_rfl) (by kernel_rfl) (by kernel_rfl) (fun _ _ _ h => h) (Or.inl ⟨by rfl, ?_⟩) (by assumption) (by kernel_rfl) (by rfl) (by kernel_rfl) ?_; rotate_left; (focus (intro w hSw; (try dsimp only at hSw); go_simp; (try with_reducible rfl))); (try simp only [Act.put, List.setIfInBounds_toArray, List.set_cons_zero, List.set_cons_succ]))
        (refine wpAnyLT_take (i := 3) (oi := { dst := some 88, op := Op.load 27 (Operand.tmp 87), type := 27, pos := "farm.go:176", after := #[{ on := 2, ground := Ground.data }], guard := none }) (v := ?_) rfl (by kernel_rfl) (by kernel_rfl) (by kernel_rfl) (fun _ _ _ h => h) (Or.inl ⟨by rfl, ?_⟩) (by assumption) (by kernel_rfl) (by rfl) (by kernel_rfl) ?_; rotate_left; (focus (intro w hSw; (try dsimp only at hSw); go_simp; (try with_reducible rfl))); (try simp only [Act.put, List.setIfInBounds_toArray, List.set_cons_zero, List.set_cons_succ]))
        (refine wpAnyLT_take (i := 4) (oi := { dst := some 89, op := Op.fieldAddr 31 (Operand.tmp 3) 2, type := 0, pos := "farm.go:176", after := #[], guard := none }) (v := ?_) rfl (by kernel_rfl) (by kernel_rfl) (by kernel_rfl) (fun _ _ _ h => h) (Or.inl ⟨by rfl, ?_⟩) (by assumption) (by kernel_rfl) (by rfl) (by kernel_rfl) ?_; rotate_left; (focus (intro w hSw; (try dsimp only at hSw); go_simp; (try with_reducible rfl))); (try simp only [Act.put, List.setIfInBounds_toArray, List.set_cons_zero, List.set_cons_succ]))
        (refine wpAnyLT_take (i := 5) (oi := { dst := some 90, op := Op.load 3 (Operand.tmp 89), type := 3, pos := "farm.go:176", after := #[{ on := 4, ground := Ground.data }], guard := none }) (v := ?_) rfl (by kernel_rfl) (by kernel_rfl) (by kernel_rfl) (fun _ _ _ h => h) (Or.inl ⟨by rfl, ?_⟩) (by assumption) (by kernel_rfl) (by rfl) (by kernel_rfl) ?_; rotate_left; (focus (intro w hSw; (try dsimp only at hSw); go_simp; (try with_reducible rfl))); (try simp only [Act.put, List.setIfInBounds_toArray, List.set_cons_zero, List.set_cons_succ]))
        (refine wpAnyLT_take (i := 6) (oi := { dst := some 91, op := Op.indexAddr 27 (Operand.tmp 88) (Operand.tmp 90), type := 0, pos := "farm.go:176", after := #[{ on := 3, ground := Ground.data }, { on := 5, ground := Ground.data }], guard := none }) (v := ?_) rfl (by kernel_rfl) (by kernel_rfl) (by kernel_rfl) (fun _ _ _ h => h) (Or.inl ⟨by rfl, ?_⟩) (by assumption) (by kernel_rfl) (by rfl) (by kernel_rfl) ?_; rotate_left; (focus (intro w hSw; (try dsimp only at hSw); go_simp; (try with_reducible rfl))); (try simp only [Act.put, List.setIfInBounds_toArray, List.set_cons_zero, List.set_cons_succ]))
        (refine wpAnyLT_take (i := 7) (oi := { dst := some 92, op := Op.load 50 (Operand.tmp 91), type := 50, pos := "farm.go:176", after := #[{ on := 6, ground := Ground.data }], guard := none }) (v := ?_) rfl (by kernel_rfl) (by kernel_rfl) (by kernel_rfl) (fun _ _ _ h => h) (Or.inl ⟨by rfl, ?_⟩) (by assumption) (by kernel_rfl) (by rfl) (by kernel_rfl) ?_; rotate_left; (focus (intro w hSw; (try dsimp only at hSw); go_simp; (try with_reducible rfl))); (try simp only [Act.put, List.setIfInBounds_toArray, List.set_cons_zero, List.set_cons_succ]))
        (refine wpAnyL_ready (rs := [8]) (by kernel_rfl) (by simp) ?_; refine List.forall_mem_cons.2 ⟨?_, fun _ h => by cases h⟩)
        (refine stepL (o := { dst := some 5, op := Op.alloc 50, type := 0, pos := "farm.go:176", after := #[], guard := none }) rfl (fun K hK => ?_); go_simp; refine hK.out _ _ (hS.out _ (hb.alloc hb.size _)) (fun hHeld => ?_); (clear hK K; (try simp only [Act.put, List.setIfInBounds_toArray, List.set_cons_zero, List.set_cons_succ])))
        have kM := Blk.new wv 50 #[.int .i64 0, .int .i64 0, .int .i64 0, .slice none 0 0, .slice none 0 0]
        have gmb : W4.heap.size ≤ wv.heap.size := hb.size
        replace hb := hb.alloc hb.size (.cells #[.int .i64 0, .int .i64 0, .int .i64 0, .slice none 0 0, .slice none 0 0] 50)
        obtain ⟨gM, hgM⟩ : ∃ x, x = wv.heap.size := ⟨_, rfl⟩
        obtain ⟨wx, hwx⟩ : ∃ x, x = wv.alloc (.cells #[.int .i64 0, .int .i64 0, .int .i64 0, .slice none 0 0, .slice none 0 0] 50) := ⟨_, rfl⟩
        rw [← hgM] at kM gmb ⊢
        rw [← hwx] at kM hb hHeld ⊢
        clear hwx hgM
        have q0 := kM.cell 0
        have q1 := kM.cell 1
        have q2 := kM.cell 2
        have q3 := kM.cell 3
        have q4 := kM.cell 4
        have z0 := kM.frozen 0
        have z1 := kM.frozen 1
        have z2 := kM.frozen 2
        have z3 := kM.frozen 3
        have z4 := kM.frozen 4
        have hb2 := ((((hb.setCell (p := ⟨gM, 0, none⟩) gmb (.int .i64 m.kind)).setCell (p := ⟨gM, 1, none⟩) gmb (.int .i64 m.worker)).setCell (p := ⟨gM, 2, none⟩) gmb (.int .i64 m.n)).setCell (p := ⟨gM, 3, none⟩) gmb (.slice m.p.fa m.p.frs.length m.p.fc)).setCell (p := ⟨gM, 4, none⟩) gmb (.slice m.p.da m.p.dfs.length m.p.dc)
        have kM2 := ((((kM.set_ 0 (.int .i64 m.kind)).set_ 1 (.int .i64 m.worker)).set_ 2 (.int .i64 m.n)).set_ 3 (.slice m.p.fa m.p.frs.length m.p.fc)).set_ 4 (.slice m.p.da m.p.dfs.length m.p.dc)
        simp only [List.setIfInBounds_toArray, List.set_cons_zero, List.set_cons_succ] at kM2
        (refine wpAnyL_ready (rs := [9]) (by kernel_rfl) (by simp) ?_; refine List.forall_mem_cons.2 ⟨?_, fun _ h => by cases h⟩)
        (refine stepL (o := { dst := none, op := Op.store 50 (Operand.tmp 5) (Operand.tmp 92), type := 0, pos := "farm.go:176", after := #[{ on := 8, ground := Ground.data }, { on := 7, ground := Ground.data }, { on := 0, ground := Ground.phase }, { on := 1, ground := Ground.phase }, { on := 2, ground := Ground.phase }, { on := 3, ground := Ground.phase }, { on := 4, ground := Ground.phase }, { on := 5, ground := Ground.phase }, { on := 6, ground := Ground.phase }, { on := 7, ground := Ground.phase }, { on := 8, ground := Ground.phase }], guard := none }) rfl (fun K hK => ?_); go_simp; refine hK.out _ _ (hS.out _ hb2) (fun hHeld => ?_); (clear hK K; (try simp only [Act.put, List.setIfInBounds_toArray, List.set_cons_zero, List.set_cons_succ])))
        refine wpAnyL_done (by kernel_rfl) ?_ _
        obtain ⟨w5, hw5⟩ : ∃ x, x = ((((wx.setCell ⟨gM, 0, none⟩ (.int .i64 m.kind)).setCell ⟨gM, 1, none⟩ (.int .i64 m.worker)).setCell ⟨gM, 2, none⟩ (.int .i64 m.n)).setCell ⟨gM, 3, none⟩ (.slice m.p.fa m.p.frs.length m.p.fc)).setCell ⟨gM, 4, none⟩ (.slice m.p.da m.p.dfs.length m.p.dc) := ⟨_, rfl⟩
        rw [← hw5] at hb2 kM2 hHeld ⊢
        clear hw5 hb kM q0 q1 q2 q3 q4 z0 z1 z2 z3 z4 hHeld hS
        have h5 := h.all hb2
        have hm5 := hmo.all hb2
        have hB5 := hB.trans (hb2.mono h.lt)
        have kf5 := kf.trans (KF.below hb2)
        have q3 := kM2.cell 3
        have q4 := kM2.cell 4
        have CP := Lib.hid (copy_any m.p w5 hm5.at_ hms)
        clear h hmo hm5 hB kX kF
        go_wp2_with fail
        refine CP.out.mono ?_
        rintro e w6 ⟨q, rfl, hqo, hqe, hb6⟩
        have h6 := h5.all hb6
        have kM6 := kM2.all hb6
        have hB6 := hB5.trans (hb6.mono h5.lt)
        have r3 := kM6.cell 3
        have r4 := kM6.cell 4
        have f3 := kM6.frozen 3
        have f4 := kM6.frozen 4
        have gmb2 : base ≤ gM := by have := hgN0; omega
        have hgMg : g ≠ gM := fun e => by subst e; exact kM6.ne_ h6.blk (by decide) rfl
        have kM7 := (kM6.set_ 3 (.slice q.fa q.frs.length q.fc)).set_ 4 (.slice q.da q.dfs.length q.dc)
        simp only [List.setIfInBounds_toArray, List.set_cons_zero, List.set_cons_succ] at kM7
        have hB7 := (hB6.setCell (p := ⟨gM, 3, none⟩) gmb2 (.slice q.fa q.frs.length q.fc)).setCell (p := ⟨gM, 4, none⟩) gmb2 (.slice q.da q.dfs.length q.dc)
        have hq7 := ((hqo.mono (base' := base) h5.lt).blk (j := 3) kM6 (by decide) (by decide) (by decide) (by decide) (.slice q.fa q.frs.length q.fc)).blk (j := 4) (kM6.set_ 3 _) (by decide) (by decide) (by decide) (by decide) (.slice q.da q.dfs.length q.dc)
        have hM4 : W4.heap.size ≤ gM := gmb
        have kf7 := ((kf5.trans (KF.below hb6)).trans (KF.other (j := 3) (u := .slice q.fa q.frs.length q.fc) kM6 (by decide))).trans (KF.other (j := 4) (u := .slice q.da q.dfs.length q.dc) (kM6.set_ 3 _) (by decide))
        have hNM : ∀ x, (Value.slice f.na f.nt.length f.nc).ownBlock = some x → x ≠ gM := fun x hx => by rw [HVN.out] at hx; simp only [Value.ownBlock] at hx; injection hx with hx; omega
        have h7 := (h6.off (j := 3) hgMg hNM kM6 (.slice q.fa q.frs.length q.fc)).off (j := 4) hgMg hNM (kM6.set_ 3 _) (.slice q.da q.dfs.length q.dc)
        have SD := Lib.hid (send_any f ⟨m.kind, m.worker, m.n, q⟩ base g _ h7 hq7 n7)
        clear CP q3 q4 h5 hB5 h6 hB6 hqo kM2 hb2 hb6 kM6
        go_upto_region 27 with (fail)
        obtain ⟨w7, hw7⟩ : ∃ x, x = (w6.setCell ⟨gM, 3, none⟩ (.slice q.fa q.frs.length q.fc)).setCell ⟨gM, 4, none⟩ (.slice q.da q.dfs.length q.dc) := ⟨_, rfl⟩
        rw [← hw7] at SD h7 kM7 hB7 hq7 kf7 ⊢
        clear hw7 r3 r4 f3 f4
        have r0 := kM7.cell 0
        have r1 := kM7.cell 1
        have r2 := kM7.cell 2
        have r3 := kM7.cell 3
        have r4 := kM7.cell 4
        go_wp2_with fail
        refine SD.out.mono ?_
        rintro e w8 ⟨rfl, f8, h8, e8, hb8, kf8⟩
        have hB8 := hB7.trans hb8
        have hEr : f8.er = sendP f.er m.er := by rw [e8]; simp only [MsM.er, hqe]
        clear SD e8
        go_wp2
        go_ret
        exact ⟨ret_val (by rw [HE.out]; rfl), f8, h8, by rw [HE.out]; exact hEr, hB8, kf7.trans kf8⟩

set_option maxHeartbeats 20000000 in
theorem step_6 (f : FrM) (wo k : Int) (base g : Nat) (w : World) (h : FB w base g f) (hF : f.er.Fine) :
    Calls Try.prog 23 #[.pointer (some ⟨g, 0, none⟩), .agg #[.int .i64 6, .int .i64 wo, .int .i64 k]] w (StepIs w base g (stepP f.er ⟨6, wo, k⟩)) := by
  unfold StepIs
  have n6 : f.wk.length ≤ 4 := hF.w4
  have n7 : f.nt.length ≤ 20 := by have := hF.ln; simp only [FrM.er, List.length_map] at this; omega
  have hlo := h.lo
  have hlt := h.lt
  have hgl := h.blk.lt
  have kX := Blk.new w 31 #[.int .i64 6, .int .i64 wo, .int .i64 k]
  have hbx : Below w.heap.size w (w.alloc (.cells #[.int .i64 6, .int .i64 wo, .int .i64 k] 31)) := by (repeat' (first | exact Below.refl _ _ | assumption | refine Below.setCell ?_ (by first | omega | exact Below.size (by assumption) | (simp; done) | (simp; omega)) _ | refine Below.alloc ?_ (by first | omega | exact Below.size (by assumption) | (simp; done) | (simp; omega)) _ | refine Below.drew ?_ | refine below_drewN ?_ _))
  replace h := h.all hbx
  have hB := hbx.mono hlt
  have kf : KF g w (w.alloc (.cells #[.int .i64 6, .int .i64 wo, .int .i64 k] 31)) := KF.below hbx
  have HF := Lib.hid hF
  clear hF
  go_enter Try.func23, Try.ntmps23
  go_upto_region 1 with (fail)
  obtain ⟨gX, hgX⟩ : ∃ x, x = w.heap.size := ⟨_, rfl⟩
  obtain ⟨W, hW⟩ : ∃ x, x = w.alloc (.cells #[.int .i64 6, .int .i64 wo, .int .i64 k] 31) := ⟨_, rfl⟩
  rw [← hgX] at kX ⊢
  rw [← hW] at kX h hB kf ⊢
  have hgXg : gX ≠ g := by omega
  clear hW hgX hbx hlt hgl
  have kF := h.blk
  have x0 := kX.cell 0
  have x1 := kX.cell 1
  have x2 := kX.cell 2
  have q2 := kF.cell 2
  have z2 := kF.frozen 2
  have HE := Lib.hid (stepP_6 (f := f.er) (wo := wo) (k := k))
  have m0 : 0 ≤ f.now := HF.out.n0
  have m1 : f.now ≤ 65536 := HF.out.n1
  by_cases hn : f.now = 65536
  · have hD : (f.now == 65536) = true := by simpa using hn
    rw [if_pos (show f.er.now = 65536 from hn)] at HE
    clear hn m0 m1
    go_wp2
    go_ret
    exact ⟨ret_val (by rw [HE.out]; rfl), f, h, by rw [HE.out], hB, kf⟩
  · have hD : (f.now == 65536) = false := by simpa using hn
    rw [if_neg (show ¬ f.er.now = 65536 from hn)] at HE
    have hw : IntKind.i64.wrap (f.now + 1) = f.now + 1 := by rw [IntKind.wrap_i64]; omega
    have kZ := kF.set_ 2 (.int .i64 (f.now + 1))
    simp only [List.setIfInBounds_toArray, List.set_cons_zero, List.set_cons_succ] at kZ
    have hO := h.own.box (j := 2) kF (.int .i64 (f.now + 1))
    have h3 : FB (W.setCell ⟨g, 2, none⟩ (.int .i64 (f.now + 1))) base g { f with now := f.now + 1 } := ⟨kZ, ⟨hO.ps, hO.pse, hO.pl, hO.dn, hO.hv, hO.hve, hO.gs, hO.wk, hO.nt, hO.nte, hO.apart⟩, hlo⟩
    have hB3 := hB.setCell (p := ⟨g, 2, none⟩) hlo (.int .i64 (f.now + 1))
    clear hn m0 m1 hO kZ
    go_wp2
    go_ret
    exact ⟨ret_val (by rw [HE.out]; rfl), _, h3, by rw [HE.out]; rfl, hB3, kf.trans KF.box⟩

set_option maxHeartbeats 20000000 in
theorem step_7 (f : FrM) (wo k : Int) (base g : Nat) (w : World) (h : FB w base g f) (hF : f.er.Fine) :
    Calls Try.prog 23 #[.pointer (some ⟨g, 0, none⟩), .agg #[.int .i64 7, .int .i64 wo, .int .i64 k]] w (StepIs w base g (stepP f.er ⟨7, wo, k⟩)) := by
  unfold StepIs
  have n6 : f.wk.length ≤ 4 := hF.w4
  have n7 : f.nt.length ≤ 20 := by have := hF.ln; simp only [FrM.er, List.length_map] at this; omega
  have hlo := h.lo
  have hlt := h.lt
  have hgl := h.blk.lt
  have kX := Blk.new w 31 #[.int .i64 7, .int .i64 wo, .int .i64 k]
  have hbx : Below w.heap.size w (w.alloc (.cells #[.int .i64 7, .int .i64 wo, .int .i64 k] 31)) := by (repeat' (first | exact Below.refl _ _ | assumption | refine Below.setCell ?_ (by first | omega | exact Below.size (by assumption) | (simp; done) | (simp; omega)) _ | refine Below.alloc ?_ (by first | omega | exact Below.size (by assumption) | (simp; done) | (simp; omega)) _ | refine Below.drew ?_ | refine below_drewN ?_ _))
  replace h := h.all hbx
  have hB := hbx.mono hlt
  have kf : KF g w (w.alloc (.cells #[.int .i64 7, .int .i64 wo, .int .i64 k] 31)) := KF.below hbx
  have HF := Lib.hid hF
  clear hF
  go_enter Try.func23, Try.ntmps23
  go_upto_region 1 with (fail)
  obtain ⟨gX, hgX⟩ : ∃ x, x = w.heap.size := ⟨_, rfl⟩
  obtain ⟨W, hW⟩ : ∃ x, x = w.alloc (.cells #[.int .i64 7, .int .i64 wo, .int .i64 k] 31) := ⟨_, rfl⟩
  rw [← hgX] at kX ⊢
  rw [← hW] at kX h hB kf ⊢
  have hgXg : gX ≠ g := by omega
  clear hW hgX hbx hlt hgl
  have kF := h.blk
  have x0 := kX.cell 0
  have x1 := kX.cell 1
  have x2 := kX.cell 2
  have q6 := kF.cell 6
  obtain ⟨b1, hb1⟩ : ∃ b, decide (wo < 0) = b := ⟨_, rfl⟩
  obtain ⟨b2, hb2⟩ : ∃ b, decide ((f.wk.length : Int) ≤ wo) = b := ⟨_, rfl⟩
  have HO := Lib.hid (offW (f := f.er) (K := 7) (k := k) (by omega) hb1 hb2)
  go_upto_region 5 with (fail)
  cases b1 with
  | true =>
    go_quiet (fail)
    have h4 := h.all (below_drewN (Below.refl W.heap.size W) nq)
    have hB4 := below_drewN hB nq
    have HE := Lib.hid (stepP_off (by rw [HO.out]; rfl))
    go_wp2
    go_ret
    exact ⟨ret_val (by rw [HE.out]; rfl), f, h4, by rw [HE.out], hB4, kf.trans (KF.drewN nq)⟩
  | false =>
    cases b2 with
    | true =>
      go_quiet (fail)
      have h4 := h.all (below_drewN (Below.refl W.heap.size W) nq)
      have hB4 := below_drewN hB nq
      have HE := Lib.hid (stepP_off (by rw [HO.out]; rfl))
      go_wp2
      go_ret
      exact ⟨ret_val (by rw [HE.out]; rfl), f, h4, by rw [HE.out], hB4, kf.trans (KF.drewN nq)⟩
    | false =>
      go_quiet (fail)
      have hdn : Below W.heap.size W (W.drewN nq) := below_drewN (Below.refl _ _) nq
      replace h := h.all hdn
      replace kX := kX.all hdn
      replace hB := below_drewN hB nq
      replace kf := kf.trans (KF.drewN nq)
      replace kF := kF.all hdn
      obtain ⟨W4, hW4⟩ : ∃ y, y = W.drewN nq := ⟨_, rfl⟩
      rw [← hW4] at h kX hB kF kf ⊢
      clear hW4 hdn x0 x1 x2 q6
      have x0 := kX.cell 0
      have x1 := kX.cell 1
      have x2 := kX.cell 2
      obtain ⟨j, hj⟩ : ∃ j : Nat, wo = j := ⟨wo.toNat, by have := of_decide_eq_false hb1; omega⟩
      have hjl : j < f.wk.length := by have := of_decide_eq_false hb2; omega
      subst hj
      have HE := Lib.hid (stepP_7 (f := f.er) (wo := (j : Int)) (k := k) (by rw [HO.out]; rfl))
      obtain ⟨gW, capW, hvW, hgW0, hgW1⟩ := h.own.wk.form (by omega)
      injection hvW with hvW _ hcW
      subst hcW
      rw [hvW] at kF
      have HVW := Lib.hid hvW
      have hj2 : (j : Int) < (f.wk.length : Int) := by omega
      have hS : Hid (∀ w', Below W4.heap.size W4 w' → (w'.cell? ⟨g, 6, none⟩ = some (.slice (some ⟨gW, 0, none⟩) f.wk.length f.wc) ∧ w'.cell? ⟨gX, 1, none⟩ = some (.int .i64 (j : Int)))) := fun w' h => ⟨(kF.all h).cell 6, (kX.all h).cell 1⟩
      have hb := (Below.refl W4.heap.size W4).drew
      clear hb1 hb2 hvW
      go_upto_region 33 with (fail)
      refine wp_region_late (S := (fun w' => w'.cell? ⟨g, 6, none⟩ = some (.slice (some ⟨gW, 0, none⟩) f.wk.length f.wc) ∧ w'.cell? ⟨gX, 1, none⟩ = some (.int .i64 (j : Int)))) [7] (by kernel_rfl) (hS.out _ hb) (fun hHeld => ?_)
      obtain ⟨wv, hwv⟩ : ∃ x, x = W4.drew := ⟨_, rfl⟩
      rw [← hwv] at hb hHeld ⊢
      clear hwv x0 x1 x2
      (refine wpAnyLT_take (i := 0) (oi := { dst := some 116, op := Op.move (Operand.tmp 0), type := 69, pos := "farm.go:185", after := #[], guard := none }) (v := ?_) rfl (by kernel_rfl) (by kernel_rfl) (by kernel_rfl) (fun _ _ _ h => h) (Or.inl ⟨by rfl, ?_⟩) (by assumption) (by kernel_rfl) (by rfl) (by kernel_rfl) ?_; rotate_left; (focus (intro w hSw; (try dsimp only at hSw); go_simp; (try with_reducible rfl))); (try simp only [Act.put, List.setIfInBounds_toArray, List.set_cons_zero, List.set_cons_succ]))
      (refine wpAnyLT_take (i := 1) (oi := { dst := some 117, op := Op.nilCheck (Operand.tmp 116), type := 0, pos := "farm.go:185", after := #[{ on := 0, ground := Ground.data }], guard := none }) (v := ?_) rfl (by kernel_rfl) (by kernel_rfl) (by kernel_rfl) (fun _ _ _ h => h) (Or.inl ⟨by rfl, ?_⟩) (by assumption) (by kernel_rfl) (by rfl) (by kernel_rfl) ?_; rotate_left; (focus (intro w hSw; (try dsimp only at hSw); go_simp; (try with_reducible rfl))); (try simp only [Act.put, List.setIfInBounds_toArray, List.set_cons_zero, List.set_cons_succ]))
      (refine wpAnyLT_take (i := 2) (oi := { dst := some 118, op := Op.fieldAddr 29 (Operand.tmp 117) 6, type := 0, pos := "farm.go:185", after := #[{ on := 1, ground := Ground.data }], guard := none }) (v := ?_) rfl (by kernel_rfl) (by kernel_rfl) (by kernel_rfl) (fun _ _ _ h => h) (Or.inl ⟨by rfl, ?_⟩) (by assumption) (by kernel_rfl) (by rfl) (by kernel_rfl) ?_; rotate_left; (focus (intro w hSw; (try dsimp only at hSw); go_simp; (try with_reducible rfl))); (try simp only [Act.put, List.setIfInBounds_toArray, List.set_cons_zero, List.set_cons_succ]))
      (refine wpAnyLT_take (i := 3) (oi := { dst := some 119, op := Op.load 26 (Operand.tmp 118), type := 26, pos := "farm.go:185", after := #[{ on := 2, ground := Ground.data }], guard := none }) (v := ?_) rfl (by kernel_rfl) (by kernel_rfl) (by kernel_rfl) (fun _ _ _ h => h) (Or.inl ⟨by rfl, ?_⟩) (by assumption) (by kernel_rfl) (by rfl) (by kernel_rfl) ?_; rotate_left; (focus (intro w hSw; (try dsimp only at hSw); go_simp; (try with_reducible rfl))); (try simp only [Act.put, List.setIfInBounds_toArray, List.set_cons_zero, List.set_cons_succ]))
      (refine wpAnyLT_take (i := 4) (oi := { dst := some 120, op := Op.fieldAddr 31 (Operand.tmp 3) 1, type := 0, pos := "farm.go:185", after := #[], guard := none }) (v := ?_) rfl (by kernel_rfl) (by kernel_rfl) (by kernel_rfl) (fun _ _ _ h => h) (Or.inl ⟨by rfl, ?_⟩) (by assumption) (by kernel_rfl) (by rfl) (by kernel_rfl) ?_; rotate_left; (focus (intro w hSw; (try dsimp only at hSw); go_simp; (try with_reducible rfl))); (try simp only [Act.put, List.setIfInBounds_toArray, List.set_cons_zero, List.set_cons_succ]))
      (refine wpAnyLT_take (i := 5) (oi := { dst := some 121, op := Op.load 3 (Operand.tmp 120), type := 3, pos := "farm.go:185", after := #[{ on := 4, ground := Ground.data }], guard := none }) (v := ?_) rfl (by kernel_rfl) (by kernel_rfl) (by kernel_rfl) (fun _ _ _ h => h) (Or.inl ⟨by rfl, ?_⟩) (by assumption) (by kernel_rfl) (by rfl) (by kernel_rfl) ?_; rotate_left; (focus (intro w hSw; (try dsimp only at hSw); go_simp; (try with_reducible rfl))); (try simp only [Act.put, List.setIfInBounds_toArray, List.set_cons_zero, List.set_cons_succ]))
      (refine wpAnyLT_take (i := 6) (oi := { dst := some 122, op := Op.indexAddr 26 (Operand.tmp 119) (Operand.tmp 121), type := 0, pos := "farm.go:185", after := #[{ on := 3, ground := Ground.data }, { on := 5, ground := Ground.data }, { on := 0, ground := Ground.phase }, { on := 1, ground := Ground.phase }, { on := 2, ground := Ground.phase }, { on := 3, ground := Ground.phase }, { on := 4, ground := Ground.phase }, { on := 5, ground := Ground.phase }], guard := none }) (v := ?_) rfl (by kernel_rfl) (by kernel_rfl) (by kernel_rfl) (fun _ _ _ h => h) (Or.inl ⟨by rfl, ?_⟩) (by assumption) (by kernel_rfl) (by rfl) (by kernel_rfl) ?_; rotate_left; (focus (intro w hSw; (try dsimp only at hSw); go_simp; (try with_reducible rfl))); (try simp only [Act.put, List.setIfInBounds_toArray, List.set_cons_zero, List.set_cons_succ]))
      have h4 := h.all hb
      have hB4 := hB.trans (hb.mono h.lt)
      have oW := h4.own.wk
      rw [HVW.out] at oW
      obtain ⟨u0, i0⟩ := Option.isSome_iff_exists.1 (own_isSome oW (j := j) (by omega))
      have z0 := oW.frozenAt j
      have h5 := h4.work HVW.out (j := j) (-1)
      have hB5 := hB4.setCell (p := ⟨gW, j, none⟩) hgW0 (.int .i64 (-1))
      obtain ⟨cur, kW⟩ := own_cur' oW
      have kf5 := (kf.trans (KF.below hb)).trans (KF.other (j := j) (u := .int .i64 (-1)) kW (by decide))
      clear kW
      clear oW h4 h hB4 hB hb hHeld hS kF kX
      (refine wpAnyL_ready (rs := [7]) (by kernel_rfl) (by simp) ?_; refine List.forall_mem_cons.2 ⟨stepLate (o := { dst := none, op := Op.store 3 (Operand.tmp 122) (Operand.const (Value.int IntKind.i64 (-1))), type := 0, pos := "farm.go:185", after := #[{ on := 6, ground := Ground.data }, { on := 0, ground := Ground.phase }, { on := 1, ground := Ground.phase }, { on := 2, ground := Ground.phase }, { on := 3, ground := Ground.phase }, { on := 4, ground := Ground.phase }, { on := 5, ground := Ground.phase }], guard := none }) rfl (by rfl) (fun K hK => ?_), fun _ h => by cases h⟩; go_simp; refine hK.out _ _ ?_; (clear hK K; (try simp only [Act.put, List.setIfInBounds_toArray, List.set_cons_zero, List.set_cons_succ])))
      refine wpAnyL_done (by kernel_rfl) ?_ _
      go_wp2
      go_ret
      exact ⟨ret_val (by rw [HE.out]; rfl), _, h5, by rw [HE.out]; rfl, hB5, kf5⟩

theorem zero_gr (w : World) : (zeroValue 76).run Try.prog w = .ok (.agg #[.int .i64 0, .int .i64 0]) w := by kernel_rfl
set_option maxHeartbeats 20000000 in
theorem step_8 (f : FrM) (wo k : Int) (base g : Nat) (w : World) (h : FB w base g f) (hF : f.er.Fine) :
    Calls Try.prog 23 #[.pointer (some ⟨g, 0, none⟩), .agg #[.int .i64 8, .int .i64 wo, .int .i64 k]] w (StepIs w base g (stepP f.er ⟨8, wo, k⟩)) := by
  unfold StepIs
  have n6 : f.wk.length ≤ 4 := hF.w4
  have n7 : f.nt.length ≤ 20 := by have := hF.ln; simp only [FrM.er, List.length_map] at this; omega
  have hlo := h.lo
  have hlt := h.lt
  have hgl := h.blk.lt
  have kX := Blk.new w 31 #[.int .i64 8, .int .i64 wo, .int .i64 k]
  have hbx : Below w.heap.size w (w.alloc (.cells #[.int .i64 8, .int .i64 wo, .int .i64 k] 31)) := by (repeat' (first | exact Below.refl _ _ | assumption | refine Below.setCell ?_ (by first | omega | exact Below.size (by assumption) | (simp; done) | (simp; omega)) _ | refine Below.alloc ?_ (by first | omega | exact Below.size (by assumption) | (simp; done) | (simp; omega)) _ | refine Below.drew ?_ | refine below_drewN ?_ _))
  replace h := h.all hbx
  have hB := hbx.mono hlt
  have kf : KF g w (w.alloc (.cells #[.int .i64 8, .int .i64 wo, .int .i64 k] 31)) := KF.below hbx
  have HF := Lib.hid hF
  clear hF
  go_enter Try.func23, Try.ntmps23
  go_upto_region 1 with (fail)
  obtain ⟨gX, hgX⟩ : ∃ x, x = w.heap.size := ⟨_, rfl⟩
  obtain ⟨W, hW⟩ : ∃ x, x = w.alloc (.cells #[.int .i64 8, .int .i64 wo, .int .i64 k] 31) := ⟨_, rfl⟩
  rw [← hgX] at kX ⊢
  rw [← hW] at kX h hB kf ⊢
  have hgXg : gX ≠ g := by omega
  clear hW hgX hbx hlt hgl
  have kF := h.blk
  have x0 := kX.cell 0
  have x1 := kX.cell 1
  have x2 := kX.cell 2
  have HE := Lib.hid (stepP_8 (f := f.er) (wo := wo) (k := k))
  have hgl : 0 < f.gs.length := by have h1 : f.gs.length = f.pl.length := HF.out.lg; have h2 := plan_pos HF.out.pl; have h3 : f.er.pl.length = f.pl.length := rfl; omega
  obtain ⟨gG, capG, hvG, hgG0, hgG1⟩ := h.own.gs.form hgl
  injection hvG with hvG _ hcG
  subst hcG
  have oG := h.own.gs
  rw [hvG] at oG kF
  have q5 := kF.cell 5
  have hc1 := own_cells (f.gs.flatMap fun _ => #[Value.int .i64 0, .int .i64 0].toList) 0 W _ oG
  have hrow : setL (grsV f.gs) 0 (f.gs.flatMap fun _ => #[Value.int .i64 0, .int .i64 0].toList) = grsV (f.gs.map fun _ => Gr.none_) := by
    have l1 : (f.gs.flatMap fun _ => #[Value.int .i64 0, .int .i64 0].toList).length = f.gs.length * 2 := flatMap_len (fun _ => rfl) f.gs
    have l2 : (grsV f.gs).length = f.gs.length * 2 := flatMap_len Gr.cells_len f.gs
    rw [setL_eq _ _ _ (by omega), List.drop_of_length_le (by omega), List.append_nil]
    simp [grsV, List.flatMap_map, Gr.cells, Gr.none_]
  rw [hrow] at hc1
  have hcl : ∀ ty, (Builtin.clear_ #[25] ty #[.slice (some ⟨gG, 0, none⟩) f.gs.length f.gc]).run Try.prog W = .ok (.tuple #[]) (W.setCells gG 0 (f.gs.flatMap fun _ => #[Value.int .i64 0, .int .i64 0].toList)) := fun ty =>
    run_clear_k f.gs W _ _ ty (.agg #[.int .i64 0, .int .i64 0]) Try.underlying25 zero_gr (by decide) (by intro u hu; simp [Value.cells] at hu; rcases hu with rfl | rfl <;> rfl) gG 0 f.gs.length _ rfl hgl
      (fun j hj => own_isSome oG (j := 0 + j) (by simp [Value.cells] at hj; omega)) (fun j hj => oG.frozenAt _)
  have hlen : (f.gs.map fun _ => Gr.none_).length = f.gs.length := List.length_map ..
  obtain ⟨cur, kG⟩ := own_cur' oG
  have hgG : some g ≠ some gG := fun e => by injection e with e; subst e; exact kG.ne_ h.blk (by decide) rfl
  obtain ⟨vs, hvs⟩ : ∃ vs, vs = f.gs.flatMap fun _ => #[Value.int .i64 0, .int .i64 0].toList := ⟨_, rfl⟩
  rw [← hvs] at hc1 hcl
  have h3 : FB (W.setCells gG 0 vs) base g { f with gs := f.gs.map fun _ => Gr.none_ } := ⟨by simp only [hlen]; exact h.blk.grown hc1.2 hgG, h.own.grants (gs := f.gs.map fun _ => Gr.none_) hlen (by rw [hvG]; exact hc1.2) (by rw [hvG]; exact hc1.1), hlo⟩
  have hB3 := hB.grown hc1.2 h.lt (fun x hx => by injection hx with hx; omega)
  have HVG := Lib.hid hvG
  have kf3 := kf.trans (KF.row h.own.gs (by decide) (show W.grownBy (W.setCells gG 0 vs) (Value.slice f.ga f.gs.length f.gc).ownBlock by rw [hvG]; exact hc1.2))
  clear hvG hc1 hrow hvs oG kG hlen hgl
  go_wp2
  go_ret
  exact ⟨ret_val (by rw [HE.out]; rfl), _, h3, by rw [HE.out]; rfl, hB3, kf3⟩

set_option maxHeartbeats 20000000 in
theorem step_no (f : FrM) (K : Int) (wo k : Int) (base g : Nat) (w : World) (h : FB w base g f) (hF : f.er.Fine) (hK : K < 1 ∨ 8 < K) :
    Calls Try.prog 23 #[.pointer (some ⟨g, 0, none⟩), .agg #[.int .i64 K, .int .i64 wo, .int .i64 k]] w (StepIs w base g (stepP f.er ⟨K, wo, k⟩)) := by
  unfold StepIs
  have n6 : f.wk.length ≤ 4 := hF.w4
  have n7 : f.nt.length ≤ 20 := by have := hF.ln; simp only [FrM.er, List.length_map] at this; omega
  have hlo := h.lo
  have hlt := h.lt
  have hgl := h.blk.lt
  have kX := Blk.new w 31 #[.int .i64 K, .int .i64 wo, .int .i64 k]
  have hbx : Below w.heap.size w (w.alloc (.cells #[.int .i64 K, .int .i64 wo, .int .i64 k] 31)) := by (repeat' (first | exact Below.refl _ _ | assumption | refine Below.setCell ?_ (by first | omega | exact Below.size (by assumption) | (simp; done) | (simp; omega)) _ | refine Below.alloc ?_ (by first | omega | exact Below.size (by assumption) | (simp; done) | (simp; omega)) _ | refine Below.drew ?_ | refine below_drewN ?_ _))
  replace h := h.all hbx
  have hB := hbx.mono hlt
  have kf : KF g w (w.alloc (.cells #[.int .i64 K, .int .i64 wo, .int .i64 k] 31)) := KF.below hbx
  have HF := Lib.hid hF
  clear hF
  go_enter Try.func23, Try.ntmps23
  go_upto_region 1 with (fail)
  obtain ⟨gX, hgX⟩ : ∃ x, x = w.heap.size := ⟨_, rfl⟩
  obtain ⟨W, hW⟩ : ∃ x, x = w.alloc (.cells #[.int .i64 K, .int .i64 wo, .int .i64 k] 31) := ⟨_, rfl⟩
  rw [← hgX] at kX ⊢
  rw [← hW] at kX h hB kf ⊢
  have hgXg : gX ≠ g := by omega
  clear hW hgX hbx hlt hgl
  have kF := h.blk
  have x0 := kX.cell 0
  have x1 := kX.cell 1
  have x2 := kX.cell 2
  have HE := Lib.hid (stepP_no (f := f.er) (wo := wo) (k := k) hK)
  have e1 : (K == 1) = false := by simp; omega
  have e2 : (K == 2) = false := by simp; omega
  have e3 : (K == 3) = false := by simp; omega
  have e4 : (K == 4) = false := by simp; omega
  have e5 : (K == 5) = false := by simp; omega
  have e6 : (K == 6) = false := by simp; omega
  have e7 : (K == 7) = false := by simp; omega
  have e8 : (K == 8) = false := by simp; omega
  clear hK
  go_wp2
  go_ret
  exact ⟨ret_val (by rw [HE.out]; rfl), f, h, by rw [HE.out], hB, kf⟩
theorem step_any (f : FrM) (x : Hap) (base g : Nat) (w : World) (h : FB w base g f) (hF : f.er.Fine) :
    Calls Try.prog 23 #[.pointer (some ⟨g, 0, none⟩), .agg #[.int .i64 x.kind, .int .i64 x.worker, .int .i64 x.k]] w (StepIs w base g (stepP f.er x)) := by
  obtain ⟨K, wo, k⟩ := x
  by_cases hK : K < 1 ∨ 8 < K
  · exact step_no f K wo k base g w h hF hK
  · have : K = 1 ∨ K = 2 ∨ K = 3 ∨ K = 4 ∨ K = 5 ∨ K = 6 ∨ K = 7 ∨ K = 8 := by omega
    rcases this with rfl | rfl | rfl | rfl | rfl | rfl | rfl | rfl
    · exact step_1 f wo k base g w h hF
    · exact step_2 f wo k base g w h hF
    · exact step_3 f wo k base g w h hF
    · exact step_4 f wo k base g w h hF
    · exact step_5 f wo k base g w h hF
    · exact step_6 f wo k base g w h hF
    · exact step_7 f wo k base g w h hF
    · exact step_8 f wo k base g w h hF
end Go.Proofs.Ytkfmkemjoddinaa
