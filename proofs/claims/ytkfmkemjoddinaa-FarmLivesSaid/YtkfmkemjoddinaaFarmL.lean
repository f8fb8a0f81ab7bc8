/- farm.arrive: what it does. -/
import Derived.Test.YtkfmkemjoddinaaFarmT
set_option linter.all false
namespace Go.Proofs.Ytkfmkemjoddinaa
open Go.RowKit
set_option maxRecDepth 100000

theorem map_erase {α β : Type} (f : α → β) (l : List α) (k : Nat) : (l.eraseIdx k).map f = (l.map f).eraseIdx k := by
  rw [List.eraseIdx_eq_take_drop_succ, List.eraseIdx_eq_take_drop_succ, List.map_append, List.map_take, List.map_drop]
theorem bools_put (l : List Bool) (j : Nat) (a : Bool) : (boolsV l).set j (.bool a) = boolsV (l.set j a) := by simp [boolsV, List.map_set]
theorem FB.dn1 {w : World} {base g gW : Nat} {f : FrM} (h : FB w base g f) (hv : f.da = some ⟨gW, 0, none⟩) (j : Nat) (a : Bool) : FB (w.setCell ⟨gW, j, none⟩ (.bool a)) base g { f with dn := f.dn.set j a } := by
  have oW := h.own.dn
  rw [hv] at oW
  have s1 := oW.stored j (.bool a)
  rw [bools_put] at s1
  have hlen : (f.dn.set j a).length = f.dn.length := List.length_set
  obtain ⟨cur, kW⟩ := own_cur' oW
  have hgW : g ≠ gW := fun e => by subst e; exact kW.ne_ h.blk (by decide) rfl
  exact ⟨by simpa only [hlen] using h.blk.far (p := ⟨gW, j, none⟩) hgW (.bool a), h.own.done (dn := f.dn.set j a) hlen (by rw [hv]; exact s1.2) (by rw [hv]; exact s1.1), h.lo⟩
theorem FB.gs1 {w : World} {base g gG i : Nat} {f : FrM} {x : Gr} (h : FB w base g f) (hv : f.ga = some ⟨gG, 0, none⟩) (hx : f.gs[i]? = some x) (a b : Int) :
    FB ((w.setCell ⟨gG, i * 2, none⟩ (.int .i64 a)).setCell ⟨gG, i * 2 + 1, none⟩ (.int .i64 b)) base g { f with gs := f.gs.set i ⟨a, b⟩ } := by
  have oG := h.own.gs
  rw [hv] at oG
  have s1 := oG.stored (i * 2) (.int .i64 a)
  have s2 := s1.1.stored (i * 2 + 1) (.int .i64 b)
  have hr9 := s2.1
  rw [grs_put _ _ hx] at hr9
  have hlen : (f.gs.set i ⟨a, b⟩).length = f.gs.length := List.length_set
  obtain ⟨cur, kG⟩ := own_cur' oG
  have hgG : g ≠ gG := fun e => by subst e; exact kG.ne_ h.blk (by decide) rfl
  exact ⟨by simpa only [hlen] using (h.blk.far (p := ⟨gG, i * 2, none⟩) hgG (.int .i64 a)).far (p := ⟨gG, i * 2 + 1, none⟩) hgG (.int .i64 b), h.own.grants (gs := f.gs.set i ⟨a, b⟩) hlen (by rw [hv]; exact s1.2.trans s2.2) (by rw [hv]; exact hr9), h.lo⟩
theorem FB.hv1 {w : World} {base g gG i : Nat} {f : FrM} {x q : PtM} (h : FB w base g f) (hv : f.ha = some ⟨gG, 0, none⟩) (hx : f.hv[i]? = some x) (hq : q.Own w base) :
    FB ((w.setCell ⟨gG, i * 2, none⟩ (.slice q.fa q.frs.length q.fc)).setCell ⟨gG, i * 2 + 1, none⟩ (.slice q.da q.dfs.length q.dc)) base g { f with hv := f.hv.set i q } := by
  have oG := h.own.hv
  rw [hv] at oG
  have s1 := oG.stored (i * 2) (.slice q.fa q.frs.length q.fc)
  have s2 := s1.1.stored (i * 2 + 1) (.slice q.da q.dfs.length q.dc)
  have hr9 := s2.1
  rw [pts_put hx] at hr9
  have hlen : (f.hv.set i q).length = f.hv.length := List.length_set
  obtain ⟨cur, kG⟩ := own_cur' oG
  have hgG : g ≠ gG := fun e => by subst e; exact kG.ne_ h.blk (by decide) rfl
  exact ⟨by simpa only [hlen] using (h.blk.far (p := ⟨gG, i * 2, none⟩) hgG (.slice q.fa q.frs.length q.fc)).far (p := ⟨gG, i * 2 + 1, none⟩) hgG (.slice q.da q.dfs.length q.dc), h.own.have_ (hv := f.hv.set i q) hlen (by rw [hv]; exact s1.2.trans s2.2) (by rw [hv]; exact hr9) (fun p hp => by
    rcases List.mem_or_eq_of_mem_set hp with hp | rfl
    · exact h.own.hve p hp
    · exact hq), h.lo⟩
theorem arrive_task {f : Frm} {k : Nat} {m : Msg} (hm : f.nt[k]? = some m) (hk : m.kind = 1) (hw : f.wk.getD m.worker.toNat 0 < 0) : arriveP f k = { f with nt := f.nt.eraseIdx k, wk := f.wk.set m.worker.toNat m.n } := by
  unfold arriveP; simp only; rw [getD_of _ hm, if_pos hk, if_pos hw]
theorem arrive_busy {f : Frm} {k : Nat} {m : Msg} (hm : f.nt[k]? = some m) (hk : m.kind = 1) (hw : ¬ f.wk.getD m.worker.toNat 0 < 0) : arriveP f k = { f with nt := f.nt.eraseIdx k } := by
  unfold arriveP; simp only; rw [getD_of _ hm, if_pos hk, if_neg hw]
theorem arrive_res {f : Frm} {k : Nat} {m : Msg} (hm : f.nt[k]? = some m) (hk : m.kind = 2) (hw : f.dn.getD m.n.toNat false = false) :
    arriveP f k = { f with nt := f.nt.eraseIdx k, dn := f.dn.set m.n.toNat true, hv := f.hv.set m.n.toNat m.p, gs := f.gs.set m.n.toNat .none_ } := by
  unfold arriveP; simp only; rw [getD_of _ hm, if_neg (by omega), if_pos hk, if_pos hw]
theorem arrive_again {f : Frm} {k : Nat} {m : Msg} (hm : f.nt[k]? = some m) (hk : m.kind = 2) (hw : ¬ f.dn.getD m.n.toNat false = false) : arriveP f k = { f with nt := f.nt.eraseIdx k } := by
  unfold arriveP; simp only; rw [getD_of _ hm, if_neg (by omega), if_pos hk, if_neg hw]
set_option maxHeartbeats 20000000 in
theorem arrive_any (f : FrM) (k : Nat) (base g : Nat) (w : World) (h : FB w base g f) (hF : f.er.Fine) (hk : k < f.nt.length) :
    Calls Try.prog 52 #[.pointer (some ⟨g, 0, none⟩), .int .i64 (k : Int)] w (PutIs w base g (arriveP f.er k)) := by
  unfold PutIs
  have n7 : f.nt.length ≤ 20 := by have := hF.ln; simp only [FrM.er, List.length_map] at this; omega
  have hlo := h.lo
  have hlt := h.lt
  obtain ⟨m, hm⟩ : ∃ m, f.nt[k]? = some m := ⟨_, List.getElem?_eq_getElem hk⟩
  have hme : f.er.nt[k]? = some m.er := by simp only [FrM.er, List.getElem?_map, hm]; rfl
  have HM := Lib.hid hme
  have hms := hF.ms m.er (List.mem_of_getElem? hme)
  have hmo := h.own.nte m (List.mem_of_getElem? hm)
  obtain ⟨gN, capN, hvN, hgN0, hgN1⟩ := h.own.nt.form (by omega)
  injection hvN with hvN _ hcN
  subst hcN
  have hR := Reads.of_own h.own.nt
  rw [hvN] at hR
  obtain ⟨b0, o0, ez, _, d0, d1, d2, d3, d4⟩ := ms_get hR hm
  injection ez with ez
  injection ez with e1 e2
  subst e1 e2
  simp only [Nat.zero_add] at d0 d1 d2 d3 d4
  have kF := h.blk
  rw [hvN] at kF
  have q7 := kF.cell 7
  have hk2 : (k : Int) < (f.nt.length : Int) := by omega
  have HVN := Lib.hid hvN
  have HF := Lib.hid hF
  clear hm hme hR hvN hF
  go_enter Try.func52, Try.ntmps52
  go_upto_region 1 with (fail)
  have kM := Blk.new w 50 #[.int .i64 m.kind, .int .i64 m.worker, .int .i64 m.n, .slice m.p.fa m.p.frs.length m.p.fc, .slice m.p.da m.p.dfs.length m.p.dc]
  have hbx : Below w.heap.size w (w.alloc (.cells #[.int .i64 m.kind, .int .i64 m.worker, .int .i64 m.n, .slice m.p.fa m.p.frs.length m.p.fc, .slice m.p.da m.p.dfs.length m.p.dc] 50)) := by (repeat' (first | exact Below.refl _ _ | assumption | refine Below.setCell ?_ (by first | omega | exact Below.size (by assumption) | (simp; done) | (simp; omega)) _ | refine Below.alloc ?_ (by first | omega | exact Below.size (by assumption) | (simp; done) | (simp; omega)) _ | refine Below.drew ?_ | refine below_drewN ?_ _))
  replace h := h.all hbx
  replace kF := kF.all hbx
  replace hmo := hmo.all hbx
  have hB := hbx.mono hlt
  have kf0 : KF g w (w.alloc (.cells #[.int .i64 m.kind, .int .i64 m.worker, .int .i64 m.n, .slice m.p.fa m.p.frs.length m.p.fc, .slice m.p.da m.p.dfs.length m.p.dc] 50)) := KF.below hbx
  obtain ⟨gM, hgM⟩ : ∃ x, x = w.heap.size := ⟨_, rfl⟩
  obtain ⟨W, hW⟩ : ∃ x, x = w.alloc (.cells #[.int .i64 m.kind, .int .i64 m.worker, .int .i64 m.n, .slice m.p.fa m.p.frs.length m.p.fc, .slice m.p.da m.p.dfs.length m.p.dc] 50) := ⟨_, rfl⟩
  rw [← hgM] at kM ⊢
  rw [← hW] at kM h kF hmo hB kf0 ⊢
  have hgMN : gM ≠ gN := by omega
  clear hW hgM hbx d0 d1 d2 d3 d4 q7
  have q7 := kF.cell 7
  have DL := Lib.hid (deleteMsg_any base (some ⟨gN, 0, none⟩) f.nc f.nt k W (by have := h.own.nt; rw [HVN.out] at this; exact this) hk (by omega))
  go_wp2_with fail
  refine DL.out.mono ?_
  rintro e w2 ⟨rfl, o2, hg2⟩
  have hn2 : (f.nt.eraseIdx k).length = f.nt.length - 1 := List.length_eraseIdx_of_lt hk
  have hgo : W.grownBy w2 (Value.slice f.na f.nt.length f.nc).ownBlock := by rw [HVN.out]; exact hg2
  have hO2 := h.own.net (nt := f.nt.eraseIdx k) (na := f.na) (nc := f.nc) hgo (by rw [hn2, HVN.out]; exact o2) (fun y hy => (h.own.nte y (List.mem_of_mem_eraseIdx hy)).kept_ty h.own.nt (by decide) (by decide) (by decide) (by decide) hgo)
  have hng : some g ≠ (Value.slice f.na f.nt.length f.nc).ownBlock := (own_blk_ne h.own.nt h.blk (by decide)).symm
  have kF2 := h.blk.grown hgo hng
  have f7 := kF2.frozen 7
  have r7 := kF2.cell 7
  have kZ := kF2.set_ 7 (.slice (some ⟨gN, 0, none⟩) (f.nt.length - 1) f.nc)
  simp only [List.setIfInBounds_toArray, List.set_cons_zero, List.set_cons_succ] at kZ
  have h3 : FB (w2.setCell ⟨g, 7, none⟩ (.slice (some ⟨gN, 0, none⟩) (f.nt.length - 1) f.nc)) base g { f with nt := f.nt.eraseIdx k } := ⟨by simp only [hn2, HVN.out]; exact kZ, hO2.box kF2 _, hlo⟩
  have hm3 := (hmo.kept_ty h.own.nt (by decide) (by decide) (by decide) (by decide) hgo).blk (j := 7) kF2 (by decide) (by decide) (by decide) (by decide) (.slice (some ⟨gN, 0, none⟩) (f.nt.length - 1) f.nc)
  have hgMg : gM ≠ g := fun e => by subst e; exact kM.ne_ h.blk (by decide) rfl
  have kM3 := (kM.grown hg2 (by simp only [Value.ownBlock]; intro e; injection e with e; exact hgMN e)).far (p := ⟨g, 7, none⟩) hgMg (.slice (some ⟨gN, 0, none⟩) (f.nt.length - 1) f.nc)
  have hB3 := (hB.grown hg2 h.lt (fun x hx => by simp only [Value.ownBlock] at hx; injection hx with hx; omega)).setCell (p := ⟨g, 7, none⟩) hlo (.slice (some ⟨gN, 0, none⟩) (f.nt.length - 1) f.nc)
  have kf3 := (kf0.trans (KF.row h.own.nt (by decide) hgo)).trans (KF.box (j := 7) (u := .slice (some ⟨gN, 0, none⟩) (f.nt.length - 1) f.nc))
  clear DL hg2 hgo hO2 kZ kF2 o2 kM kF h hmo hB q7
  go_upto_region 2 with (fail)
  obtain ⟨W3, hW3⟩ : ∃ y, y = w2.setCell ⟨g, 7, none⟩ (.slice (some ⟨gN, 0, none⟩) (f.nt.length - 1) f.nc) := ⟨_, rfl⟩
  rw [← hW3] at h3 hm3 kM3 hB3 kf3 ⊢
  clear hW3 r7 f7
  have m0 := kM3.cell 0
  have m1 := kM3.cell 1
  have m2 := kM3.cell 2
  have m3 := kM3.cell 3
  have m4 := kM3.cell 4
  obtain ⟨hkd, w0, w1, v0, v1, _⟩ := hms
  obtain ⟨i, hi⟩ : ∃ i : Nat, m.worker = i := ⟨m.worker.toNat, by have : 0 ≤ m.worker := w0; omega⟩
  obtain ⟨n, hn⟩ : ∃ i : Nat, m.n = i := ⟨m.n.toNat, by have : 0 ≤ m.n := v0; omega⟩
  have hil : i < f.wk.length := by have : m.worker < (f.wk.length : Int) := w1; omega
  have hnl : n < f.pl.length := by have : m.n < (f.pl.length : Int) := v1; omega
  have hld : f.dn.length = f.pl.length := HF.out.ld
  have hlh : f.hv.length = f.pl.length := by have := HF.out.lh; simp only [FrM.er, List.length_map] at this; exact this
  have hlg : f.gs.length = f.pl.length := HF.out.lg
  have HI := Lib.hid hi
  have HNN := Lib.hid hn
  rcases hkd with hkd | hkd
  · have hkm : m.kind = 1 := hkd
    rw [hi] at kM3 m1
    rw [hn] at kM3 m2
    rw [hkm] at kM3 m0
    obtain ⟨x, hx⟩ : ∃ x, f.wk[i]? = some x := ⟨_, List.getElem?_eq_getElem hil⟩
    have hgd : Hid (f.er.wk.getD m.er.worker.toNat 0 = x) := by
      show f.wk.getD m.worker.toNat 0 = x
      rw [HI.out, Int.toNat_natCast]; exact getD_of _ hx
    obtain ⟨gW, capW, hvW, hgW0, hgW1⟩ := h3.own.wk.form (show 0 < f.wk.length by omega)
    injection hvW with hvW _ hcW
    replace hvW : f.wa = some ⟨gW, 0, none⟩ := hvW
    replace hcW : f.wc = capW := hcW
    subst hcW
    have oW := h3.own.wk
    simp only at oW
    rw [hvW] at oW
    have cW : W3.cell? ⟨gW, i, none⟩ = some (.int .i64 x) := by
      rw [oW.cellAt i (by omega), intsV, List.getElem?_map, hx]; rfl
    have kF := h3.blk
    simp only at kF
    rw [hvW] at kF
    have q6 := kF.cell 6
    have hi2 : (i : Int) < (f.wk.length : Int) := by omega
    have HVW := Lib.hid hvW
    have HKD := Lib.hid hkd
    clear hi hn hkd hkm hx hvW w0 w1 v0 v1 hld hlh hlg
    go_upto_region 4 with (fail)
    by_cases hx0 : x < 0
    · have hD : decide (x < 0) = true := decide_eq_true hx0
      have HE := Lib.hid (arrive_task HM.out HKD.out (by rw [hgd.out]; exact hx0))
      clear hx0
      go_quiet (fail)
      have hdn : Below W3.heap.size W3 (W3.drewN nq) := below_drewN (Below.refl _ _) nq
      replace h3 := h3.all hdn
      replace kM3 := kM3.all hdn
      replace kF := kF.all hdn
      replace hB3 := below_drewN hB3 nq
      replace kf3 := kf3.trans (KF.drewN nq)
      obtain ⟨W4, hW4⟩ : ∃ y, y = W3.drewN nq := ⟨_, rfl⟩
      rw [← hW4] at h3 kM3 kF hB3 kf3 ⊢
      clear hW4 hdn m0 m1 m2 m3 m4 q6 cW oW
      have hS : Hid (∀ w', Below W4.heap.size W4 w' → (w'.cell? ⟨g, 6, none⟩ = some (.slice (some ⟨gW, 0, none⟩) f.wk.length f.wc) ∧ w'.cell? ⟨gM, 1, none⟩ = some (.int .i64 (i : Int)) ∧ w'.cell? ⟨gM, 2, none⟩ = some (.int .i64 (n : Int)))) :=
        fun w' h => ⟨(kF.all h).cell 6, (kM3.all h).cell 1, (kM3.all h).cell 2⟩
      have hb := (Below.refl W4.heap.size W4).drew
      go_upto_region 5 with (fail)
      refine wp_region_late (S := (fun w' => w'.cell? ⟨g, 6, none⟩ = some (.slice (some ⟨gW, 0, none⟩) f.wk.length f.wc) ∧ w'.cell? ⟨gM, 1, none⟩ = some (.int .i64 (i : Int)) ∧ w'.cell? ⟨gM, 2, none⟩ = some (.int .i64 (n : Int)))) [9] (by kernel_rfl) (hS.out _ hb) (fun hHeld => ?_)
      obtain ⟨wv, hwv⟩ : ∃ x, x = W4.drew := ⟨_, rfl⟩
      rw [← hwv] at hb hHeld ⊢
      clear hwv
      (refine wpAnyLT_take (i := 0) (oi := { dst := some 36, op := Op.move (Operand.tmp 0), type := 69, pos := "farm.go:142", after := #[], guard := none }) (v := ?_) rfl (by kernel_rfl) (by kernel_rfl) (by kernel_rfl) (fun _ _ _ h => h) (Or.inl ⟨by rfl, ?_⟩) (by assumption) (by kernel_rfl) (by rfl) (by kernel_rfl) ?_; rotate_left; (focus (intro w hSw; (try dsimp only at hSw); go_simp; (try with_reducible rfl))); (try simp only [Act.put, List.setIfInBounds_toArray, List.set_cons_zero, List.set_cons_succ]))
      (refine wpAnyLT_take (i := 1) (oi := { dst := some 37, op := Op.nilCheck (Operand.tmp 36), type := 0, pos := "farm.go:142", after := #[{ on := 0, ground := Ground.data }], guard := none }) (v := ?_) rfl (by kernel_rfl) (by kernel_rfl) (by kernel_rfl) (fun _ _ _ h => h) (Or.inl ⟨by rfl, ?_⟩) (by assumption) (by kernel_rfl) (by rfl) (by kernel_rfl) ?_; rotate_left; (focus (intro w hSw; (try dsimp only at hSw); go_simp; (try with_reducible rfl))); (try simp only [Act.put, List.setIfInBounds_toArray, List.set_cons_zero, List.set_cons_succ]))
      (refine wpAnyLT_take (i := 2) (oi := { dst := some 38, op := Op.fieldAddr 29 (Operand.tmp 37) 6, type := 0, pos := "farm.go:142", after := #[{ on := 1, ground := Ground.data }], guard := none }) (v := ?_) rfl (by kernel_rfl) (by kernel_rfl) (by kernel_rfl) (fun _ _ _ h => h) (Or.inl ⟨by rfl, ?_⟩) (by assumption) (by kernel_rfl) (by rfl) (by kernel_rfl) ?_; rotate_left; (focus (intro w hSw; (try dsimp only at hSw); go_simp; (try with_reducible rfl))); (try simp only [Act.put, List.setIfInBounds_toArray, List.set_cons_zero, List.set_cons_succ]))
      (refine wpAnyLT_take (i := 3) (oi := { dst := some 39, op := Op.load 26 (Operand.tmp 38), type := 26, pos := "farm.go:142", after := #[{ on := 2, ground := Ground.data }], guard := none }) (v := ?_) rfl (by kernel_rfl) (by kernel_rfl) (by kernel_rfl) (fun _ _ _ h => h) (Or.inl ⟨by rfl, ?_⟩) (by assumption) (by kernel_rfl) (by rfl) (by kernel_rfl) ?_; rotate_left; (focus (intro w hSw; (try dsimp only at hSw); go_simp; (try with_reducible rfl))); (try simp only [Act.put, List.setIfInBounds_toArray, List.set_cons_zero, List.set_cons_succ]))
      (refine wpAnyLT_take (i := 4) (oi := { dst := some 40, op := Op.fieldAddr 50 (Operand.tmp 4) 1, type := 0, pos := "farm.go:142", after := #[], guard := none }) (v := ?_) rfl (by kernel_rfl) (by kernel_rfl) (by kernel_rfl) (fun _ _ _ h => h) (Or.inl ⟨by rfl, ?_⟩) (by assumption) (by kernel_rfl) (by rfl) (by kernel_rfl) ?_; rotate_left; (focus (intro w hSw; (try dsimp only at hSw); go_simp; (try with_reducible rfl))); (try simp only [Act.put, List.setIfInBounds_toArray, List.set_cons_zero, List.set_cons_succ]))
      (refine wpAnyLT_take (i := 5) (oi := { dst := some 41, op := Op.load 3 (Operand.tmp 40), type := 3, pos := "farm.go:142", after := #[{ on := 4, ground := Ground.data }], guard := none }) (v := ?_) rfl (by kernel_rfl) (by kernel_rfl) (by kernel_rfl) (fun _ _ _ h => h) (Or.inl ⟨by rfl, ?_⟩) (by assumption) (by kernel_rfl) (by rfl) (by kernel_rfl) ?_; rotate_left; (focus (intro w hSw; (try dsimp only at hSw); go_simp; (try with_reducible rfl))); (try simp only [Act.put, List.setIfInBounds_toArray, List.set_cons_zero, List.set_cons_succ]))
      (refine wpAnyLT_take (i := 6) (oi := { dst := some 42, op := Op.fieldAddr 50 (Operand.tmp 4) 2, type := 0, pos := "farm.go:142", after := #[], guard := none }) (v := ?_) rfl (by kernel_rfl) (by kernel_rfl) (by kernel_rfl) (fun _ _ _ h => h) (Or.inl ⟨by rfl, ?_⟩) (by assumption) (by kernel_rfl) (by rfl) (by kernel_rfl) ?_; rotate_left; (focus (intro w hSw; (try dsimp only at hSw); go_simp; (try with_reducible rfl))); (try simp only [Act.put, List.setIfInBounds_toArray, List.set_cons_zero, List.set_cons_succ]))
      (refine wpAnyLT_take (i := 7) (oi := { dst := some 43, op := Op.load 3 (Operand.tmp 42), type := 3, pos := "farm.go:142", after := #[{ on := 6, ground := Ground.data }], guard := none }) (v := ?_) rfl (by kernel_rfl) (by kernel_rfl) (by kernel_rfl) (fun _ _ _ h => h) (Or.inl ⟨by rfl, ?_⟩) (by assumption) (by kernel_rfl) (by rfl) (by kernel_rfl) ?_; rotate_left; (focus (intro w hSw; (try dsimp only at hSw); go_simp; (try with_reducible rfl))); (try simp only [Act.put, List.setIfInBounds_toArray, List.set_cons_zero, List.set_cons_succ]))
      (refine wpAnyLT_take (i := 8) (oi := { dst := some 44, op := Op.indexAddr 26 (Operand.tmp 39) (Operand.tmp 41), type := 0, pos := "farm.go:142", after := #[{ on := 3, ground := Ground.data }, { on := 5, ground := Ground.data }, { on := 0, ground := Ground.phase }, { on := 1, ground := Ground.phase }, { on := 2, ground := Ground.phase }, { on := 3, ground := Ground.phase }, { on := 4, ground := Ground.phase }, { on := 5, ground := Ground.phase }, { on := 6, ground := Ground.phase }, { on := 7, ground := Ground.phase }], guard := none }) (v := ?_) rfl (by kernel_rfl) (by kernel_rfl) (by kernel_rfl) (fun _ _ _ h => h) (Or.inl ⟨by rfl, ?_⟩) (by assumption) (by kernel_rfl) (by rfl) (by kernel_rfl) ?_; rotate_left; (focus (intro w hSw; (try dsimp only at hSw); go_simp; (try with_reducible rfl))); (try simp only [Act.put, List.setIfInBounds_toArray, List.set_cons_zero, List.set_cons_succ]))
      have h4 := h3.all hb
      have hB4 := hB3.trans (hb.mono h3.lt)
      have oW := h4.own.wk
      simp only at oW
      rw [HVW.out] at oW
      obtain ⟨u0, i0⟩ := Option.isSome_iff_exists.1 (own_isSome oW (j := i) (by omega))
      have z0 := oW.frozenAt i
      have h5 := h4.work (show ({ f with nt := f.nt.eraseIdx k } : FrM).wa = some ⟨gW, 0, none⟩ from HVW.out) (j := i) (n : Int)
      have hB5 := hB4.setCell (p := ⟨gW, i, none⟩) hgW0 (.int .i64 (n : Int))
      obtain ⟨cur, kW⟩ := own_cur' oW
      have kf5 := (kf3.trans (KF.below hb)).trans (KF.other (j := i) (u := .int .i64 (n : Int)) kW (by decide))
      clear kW
      clear oW h4 h3 hB4 hB3 hb hHeld hS kF kM3
      (refine wpAnyL_ready (rs := [9]) (by kernel_rfl) (by simp) ?_; refine List.forall_mem_cons.2 ⟨stepLate (o := { dst := none, op := Op.store 3 (Operand.tmp 44) (Operand.tmp 43), type := 0, pos := "farm.go:142", after := #[{ on := 8, ground := Ground.data }, { on := 7, ground := Ground.data }, { on := 0, ground := Ground.phase }, { on := 1, ground := Ground.phase }, { on := 2, ground := Ground.phase }, { on := 3, ground := Ground.phase }, { on := 4, ground := Ground.phase }, { on := 5, ground := Ground.phase }, { on := 6, ground := Ground.phase }, { on := 7, ground := Ground.phase }], guard := none }) rfl (by rfl) (fun K hK => ?_), fun _ h => by cases h⟩; go_simp; refine hK.out _ _ ?_; (clear hK K; (try simp only [Act.put, List.setIfInBounds_toArray, List.set_cons_zero, List.set_cons_succ])))
      refine wpAnyL_done (by kernel_rfl) ?_ _
      (go_wp2; (first | go_end0 | refine bodyPost_ret (results_none rfl _ _ _) rfl ?_))
      refine ⟨rfl, _, h5, ?_, hB5, kf5⟩
      (try rw [HE.out])
      show _ = _
      simp only [FrM.er, MsM.er, HI.out, HNN.out, Int.toNat_natCast, map_erase]
    · have hD : decide (x < 0) = false := decide_eq_false hx0
      have HE := Lib.hid (arrive_busy HM.out HKD.out (by rw [hgd.out]; exact hx0))
      clear hx0
      go_quiet (fail)
      have h4 := h3.all (below_drewN (Below.refl W3.heap.size W3) nq)
      have hB4 := below_drewN hB3 nq
      (go_wp2; (first | go_end0 | refine bodyPost_ret (results_none rfl _ _ _) rfl ?_))
      refine ⟨rfl, _, h4, ?_, hB4, kf3.trans (KF.drewN nq)⟩
      (try rw [HE.out])
      simp only [FrM.er, map_erase]
  · have hkm : m.kind = 2 := hkd
    rw [hn] at kM3 m2
    rw [hkm] at kM3 m0
    obtain ⟨x, hx⟩ : ∃ x, f.dn[n]? = some x := ⟨_, List.getElem?_eq_getElem (by omega)⟩
    obtain ⟨y, hy⟩ : ∃ x, f.hv[n]? = some x := ⟨_, List.getElem?_eq_getElem (by omega)⟩
    obtain ⟨z, hz⟩ : ∃ x, f.gs[n]? = some x := ⟨_, List.getElem?_eq_getElem (by omega)⟩
    have hgd : Hid (f.er.dn.getD m.er.n.toNat false = x) := by
      show f.dn.getD m.n.toNat false = x
      rw [HNN.out, Int.toNat_natCast]; exact getD_of _ hx
    obtain ⟨gD, capD, hvD, hgD0, hgD1⟩ := h3.own.dn.form (show 0 < f.dn.length by omega)
    injection hvD with hvD _ hcD
    replace hvD : f.da = some ⟨gD, 0, none⟩ := hvD
    replace hcD : f.dc = capD := hcD
    subst hcD
    obtain ⟨gH, capH, hvH, hgH0, hgH1⟩ := h3.own.hv.form (show 0 < f.hv.length by omega)
    injection hvH with hvH _ hcH
    replace hvH : f.ha = some ⟨gH, 0, none⟩ := hvH
    replace hcH : f.hc = capH := hcH
    subst hcH
    obtain ⟨gG, capG, hvG, hgG0, hgG1⟩ := h3.own.gs.form (show 0 < f.gs.length by omega)
    injection hvG with hvG _ hcG
    replace hvG : f.ga = some ⟨gG, 0, none⟩ := hvG
    replace hcG : f.gc = capG := hcG
    subst hcG
    have oD := h3.own.dn
    simp only at oD
    rw [hvD] at oD
    have cD : W3.cell? ⟨gD, n, none⟩ = some (.bool x) := by
      rw [oD.cellAt n (by omega), boolsV, List.getElem?_map, hx]; rfl
    have kF := h3.blk
    simp only at kF
    rw [hvD, hvH, hvG] at kF
    have q3 := kF.cell 3
    have n1 : (n : Int) < (f.dn.length : Int) := by omega
    have n2 : (n : Int) < (f.hv.length : Int) := by omega
    have n3 : (n : Int) < (f.gs.length : Int) := by omega
    have HVD := Lib.hid hvD
    have HVH := Lib.hid hvH
    have HVG := Lib.hid hvG
    have HY := Lib.hid hy
    have HZ := Lib.hid hz
    have HKD := Lib.hid hkd
    have b1 : n < f.dn.length := by omega
    have b2 : n < f.hv.length := by omega
    have b3 : n < f.gs.length := by omega
    clear hi hn hkd hkm hx hy hz hvD hvH hvG w0 w1 v0 v1 hld hlh hlg
    go_upto_region 7 with (fail)
    cases x with
    | true =>
      have HE := Lib.hid (arrive_again HM.out HKD.out (by rw [hgd.out]; simp))
      go_quiet (fail)
      have h4 := h3.all (below_drewN (Below.refl W3.heap.size W3) nq)
      have hB4 := below_drewN hB3 nq
      (go_wp2; (first | go_end0 | refine bodyPost_ret (results_none rfl _ _ _) rfl ?_))
      refine ⟨rfl, _, h4, ?_, hB4, kf3.trans (KF.drewN nq)⟩
      (try rw [HE.out])
      simp only [FrM.er, map_erase]
    | false =>
      have HE := Lib.hid (arrive_res HM.out HKD.out hgd.out)
      go_quiet (fail)
      have hdn : Below W3.heap.size W3 (W3.drewN nq) := below_drewN (Below.refl _ _) nq
      replace h3 := h3.all hdn
      replace kM3 := kM3.all hdn
      replace kF := kF.all hdn
      replace hm3 := hm3.all hdn
      replace hB3 := below_drewN hB3 nq
      replace kf3 := kf3.trans (KF.drewN nq)
      obtain ⟨W4, hW4⟩ : ∃ y, y = W3.drewN nq := ⟨_, rfl⟩
      rw [← hW4] at h3 kM3 kF hB3 hm3 kf3 ⊢
      clear hW4 hdn m0 m1 m2 m3 m4 q3 cD oD
      have hS : Hid (∀ w', Below W4.heap.size W4 w' → (w'.cell? ⟨g, 3, none⟩ = some (.slice (some ⟨gD, 0, none⟩) f.dn.length f.dc) ∧ w'.cell? ⟨g, 4, none⟩ = some (.slice (some ⟨gH, 0, none⟩) f.hv.length f.hc) ∧ w'.cell? ⟨g, 5, none⟩ = some (.slice (some ⟨gG, 0, none⟩) f.gs.length f.gc) ∧ w'.cell? ⟨gM, 2, none⟩ = some (.int .i64 (n : Int)) ∧ w'.cell? ⟨gM, 3, none⟩ = some (.slice m.p.fa m.p.frs.length m.p.fc) ∧ w'.cell? ⟨gM, 4, none⟩ = some (.slice m.p.da m.p.dfs.length m.p.dc))) :=
        fun w' h => ⟨(kF.all h).cell 3, (kF.all h).cell 4, (kF.all h).cell 5, (kM3.all h).cell 2, (kM3.all h).cell 3, (kM3.all h).cell 4⟩
      have hb := (Below.refl W4.heap.size W4).drew
      go_upto_region 8 with (fail)
      refine wp_region_late (S := (fun w' => w'.cell? ⟨g, 3, none⟩ = some (.slice (some ⟨gD, 0, none⟩) f.dn.length f.dc) ∧ w'.cell? ⟨g, 4, none⟩ = some (.slice (some ⟨gH, 0, none⟩) f.hv.length f.hc) ∧ w'.cell? ⟨g, 5, none⟩ = some (.slice (some ⟨gG, 0, none⟩) f.gs.length f.gc) ∧ w'.cell? ⟨gM, 2, none⟩ = some (.int .i64 (n : Int)) ∧ w'.cell? ⟨gM, 3, none⟩ = some (.slice m.p.fa m.p.frs.length m.p.fc) ∧ w'.cell? ⟨gM, 4, none⟩ = some (.slice m.p.da m.p.dfs.length m.p.dc))) [] (by kernel_rfl) (hS.out _ hb) (fun hHeld => ?_)
      obtain ⟨wv, hwv⟩ : ∃ x, x = W4.drew := ⟨_, rfl⟩
      rw [← hwv] at hb hHeld ⊢
      clear hwv
      (refine wpAnyLT_take (i := 0) (oi := { dst := some 56, op := Op.move (Operand.tmp 0), type := 69, pos := "farm.go:146", after := #[], guard := none }) (v := ?_) rfl (by kernel_rfl) (by kernel_rfl) (by kernel_rfl) (fun _ _ _ h => h) (Or.inl ⟨by rfl, ?_⟩) (by assumption) (by kernel_rfl) (by rfl) (by kernel_rfl) ?_; rotate_left; (focus (intro w hSw; (try dsimp only at hSw); go_simp; (try with_reducible rfl))); (try simp only [Act.put, List.setIfInBounds_toArray, List.set_cons_zero, List.set_cons_succ]))
      (refine wpAnyLT_take (i := 1) (oi := { dst := some 57, op := Op.nilCheck (Operand.tmp 56), type := 0, pos := "farm.go:146", after := #[{ on := 0, ground := Ground.data }], guard := none }) (v := ?_) rfl (by kernel_rfl) (by kernel_rfl) (by kernel_rfl) (fun _ _ _ h => h) (Or.inl ⟨by rfl, ?_⟩) (by assumption) (by kernel_rfl) (by rfl) (by kernel_rfl) ?_; rotate_left; (focus (intro w hSw; (try dsimp only at hSw); go_simp; (try with_reducible rfl))); (try simp only [Act.put, List.setIfInBounds_toArray, List.set_cons_zero, List.set_cons_succ]))
      (refine wpAnyLT_take (i := 2) (oi := { dst := some 58, op := Op.fieldAddr 29 (Operand.tmp 57) 3, type := 0, pos := "farm.go:146", after := #[{ on := 1, ground := Ground.data }], guard := none }) (v := ?_) rfl (by kernel_rfl) (by kernel_rfl) (by kernel_rfl) (fun _ _ _ h => h) (Or.inl ⟨by rfl, ?_⟩) (by assumption) (by kernel_rfl) (by rfl) (by kernel_rfl) ?_; rotate_left; (focus (intro w hSw; (try dsimp only at hSw); go_simp; (try with_reducible rfl))); (try simp only [Act.put, List.setIfInBounds_toArray, List.set_cons_zero, List.set_cons_succ]))
      (refine wpAnyLT_take (i := 3) (oi := { dst := some 59, op := Op.load 24 (Operand.tmp 58), type := 24, pos := "farm.go:146", after := #[{ on := 2, ground := Ground.data }], guard := none }) (v := ?_) rfl (by kernel_rfl) (by kernel_rfl) (by kernel_rfl) (fun _ _ _ h => h) (Or.inl ⟨by rfl, ?_⟩) (by assumption) (by kernel_rfl) (by rfl) (by kernel_rfl) ?_; rotate_left; (focus (intro w hSw; (try dsimp only at hSw); go_simp; (try with_reducible rfl))); (try simp only [Act.put, List.setIfInBounds_toArray, List.set_cons_zero, List.set_cons_succ]))
      (refine wpAnyLT_take (i := 4) (oi := { dst := some 60, op := Op.fieldAddr 50 (Operand.tmp 4) 2, type := 0, pos := "farm.go:146", after := #[], guard := none }) (v := ?_) rfl (by kernel_rfl) (by kernel_rfl) (by kernel_rfl) (fun _ _ _ h => h) (Or.inl ⟨by rfl, ?_⟩) (by assumption) (by kernel_rfl) (by rfl) (by kernel_rfl) ?_; rotate_left; (focus (intro w hSw; (try dsimp only at hSw); go_simp; (try with_reducible rfl))); (try simp only [Act.put, List.setIfInBounds_toArray, List.set_cons_zero, List.set_cons_succ]))
      (refine wpAnyLT_take (i := 5) (oi := { dst := some 61, op := Op.load 3 (Operand.tmp 60), type := 3, pos := "farm.go:146", after := #[{ on := 4, ground := Ground.data }], guard := none }) (v := ?_) rfl (by kernel_rfl) (by kernel_rfl) (by kernel_rfl) (fun _ _ _ h => h) (Or.inl ⟨by rfl, ?_⟩) (by assumption) (by kernel_rfl) (by rfl) (by kernel_rfl) ?_; rotate_left; (focus (intro w hSw; (try dsimp only at hSw); go_simp; (try with_reducible rfl))); (try simp only [Act.put, List.setIfInBounds_toArray, List.set_cons_zero, List.set_cons_succ]))
      (refine wpAnyLT_take (i := 6) (oi := { dst := some 62, op := Op.move (Operand.tmp 0), type := 69, pos := "farm.go:146", after := #[], guard := none }) (v := ?_) rfl (by kernel_rfl) (by kernel_rfl) (by kernel_rfl) (fun _ _ _ h => h) (Or.inl ⟨by rfl, ?_⟩) (by assumption) (by kernel_rfl) (by rfl) (by kernel_rfl) ?_; rotate_left; (focus (intro w hSw; (try dsimp only at hSw); go_simp; (try with_reducible rfl))); (try simp only [Act.put, List.setIfInBounds_toArray, List.set_cons_zero, List.set_cons_succ]))
      (refine wpAnyLT_take (i := 7) (oi := { dst := some 63, op := Op.nilCheck (Operand.tmp 62), type := 0, pos := "farm.go:146", after := #[{ on := 6, ground := Ground.data }], guard := none }) (v := ?_) rfl (by kernel_rfl) (by kernel_rfl) (by kernel_rfl) (fun _ _ _ h => h) (Or.inl ⟨by rfl, ?_⟩) (by assumption) (by kernel_rfl) (by rfl) (by kernel_rfl) ?_; rotate_left; (focus (intro w hSw; (try dsimp only at hSw); go_simp; (try with_reducible rfl))); (try simp only [Act.put, List.setIfInBounds_toArray, List.set_cons_zero, List.set_cons_succ]))
      (refine wpAnyLT_take (i := 8) (oi := { dst := some 64, op := Op.fieldAddr 29 (Operand.tmp 63) 4, type := 0, pos := "farm.go:146", after := #[{ on := 7, ground := Ground.data }], guard := none }) (v := ?_) rfl (by kernel_rfl) (by kernel_rfl) (by kernel_rfl) (fun _ _ _ h => h) (Or.inl ⟨by rfl, ?_⟩) (by assumption) (by kernel_rfl) (by rfl) (by kernel_rfl) ?_; rotate_left; (focus (intro w hSw; (try dsimp only at hSw); go_simp; (try with_reducible rfl))); (try simp only [Act.put, List.setIfInBounds_toArray, List.set_cons_zero, List.set_cons_succ]))
      (refine wpAnyLT_take (i := 9) (oi := { dst := some 65, op := Op.load 22 (Operand.tmp 64), type := 22, pos := "farm.go:146", after := #[{ on := 8, ground := Ground.data }], guard := none }) (v := ?_) rfl (by kernel_rfl) (by kernel_rfl) (by kernel_rfl) (fun _ _ _ h => h) (Or.inl ⟨by rfl, ?_⟩) (by assumption) (by kernel_rfl) (by rfl) (by kernel_rfl) ?_; rotate_left; (focus (intro w hSw; (try dsimp only at hSw); go_simp; (try with_reducible rfl))); (try simp only [Act.put, List.setIfInBounds_toArray, List.set_cons_zero, List.set_cons_succ]))
      (refine wpAnyLT_take (i := 10) (oi := { dst := some 66, op := Op.fieldAddr 50 (Operand.tmp 4) 2, type := 0, pos := "farm.go:146", after := #[{ on := 22, ground := Ground.gcOnly Departure.lateStores }], guard := none }) (v := ?_) rfl (by kernel_rfl) (by kernel_rfl) (by kernel_rfl) (fun _ _ _ h => h) (Or.inl ⟨by rfl, ?_⟩) (by assumption) (by kernel_rfl) (by rfl) (by kernel_rfl) ?_; rotate_left; (focus (intro w hSw; (try dsimp only at hSw); go_simp; (try with_reducible rfl))); (try simp only [Act.put, List.setIfInBounds_toArray, List.set_cons_zero, List.set_cons_succ]))
      (refine wpAnyLT_take (i := 11) (oi := { dst := some 67, op := Op.load 3 (Operand.tmp 66), type := 3, pos := "farm.go:146", after := #[{ on := 10, ground := Ground.data }, { on := 22, ground := Ground.gcOnly Departure.lateStores }], guard := none }) (v := ?_) rfl (by kernel_rfl) (by kernel_rfl) (by kernel_rfl) (fun _ _ _ h => h) (Or.inl ⟨by rfl, ?_⟩) (by assumption) (by kernel_rfl) (by rfl) (by kernel_rfl) ?_; rotate_left; (focus (intro w hSw; (try dsimp only at hSw); go_simp; (try with_reducible rfl))); (try simp only [Act.put, List.setIfInBounds_toArray, List.set_cons_zero, List.set_cons_succ]))
      (refine wpAnyLT_take (i := 12) (oi := { dst := some 68, op := Op.move (Operand.tmp 0), type := 69, pos := "farm.go:146", after := #[], guard := none }) (v := ?_) rfl (by kernel_rfl) (by kernel_rfl) (by kernel_rfl) (fun _ _ _ h => h) (Or.inl ⟨by rfl, ?_⟩) (by assumption) (by kernel_rfl) (by rfl) (by kernel_rfl) ?_; rotate_left; (focus (intro w hSw; (try dsimp only at hSw); go_simp; (try with_reducible rfl))); (try simp only [Act.put, List.setIfInBounds_toArray, List.set_cons_zero, List.set_cons_succ]))
      (refine wpAnyLT_take (i := 13) (oi := { dst := some 69, op := Op.nilCheck (Operand.tmp 68), type := 0, pos := "farm.go:146", after := #[{ on := 12, ground := Ground.data }], guard := none }) (v := ?_) rfl (by kernel_rfl) (by kernel_rfl) (by kernel_rfl) (fun _ _ _ h => h) (Or.inl ⟨by rfl, ?_⟩) (by assumption) (by kernel_rfl) (by rfl) (by kernel_rfl) ?_; rotate_left; (focus (intro w hSw; (try dsimp only at hSw); go_simp; (try with_reducible rfl))); (try simp only [Act.put, List.setIfInBounds_toArray, List.set_cons_zero, List.set_cons_succ]))
      (refine wpAnyLT_take (i := 14) (oi := { dst := some 70, op := Op.fieldAddr 29 (Operand.tmp 69) 5, type := 0, pos := "farm.go:146", after := #[{ on := 13, ground := Ground.data }], guard := none }) (v := ?_) rfl (by kernel_rfl) (by kernel_rfl) (by kernel_rfl) (fun _ _ _ h => h) (Or.inl ⟨by rfl, ?_⟩) (by assumption) (by kernel_rfl) (by rfl) (by kernel_rfl) ?_; rotate_left; (focus (intro w hSw; (try dsimp only at hSw); go_simp; (try with_reducible rfl))); (try simp only [Act.put, List.setIfInBounds_toArray, List.set_cons_zero, List.set_cons_succ]))
      (refine wpAnyLT_take (i := 15) (oi := { dst := some 71, op := Op.load 25 (Operand.tmp 70), type := 25, pos := "farm.go:146", after := #[{ on := 14, ground := Ground.data }], guard := none }) (v := ?_) rfl (by kernel_rfl) (by kernel_rfl) (by kernel_rfl) (fun _ _ _ h => h) (Or.inl ⟨by rfl, ?_⟩) (by assumption) (by kernel_rfl) (by rfl) (by kernel_rfl) ?_; rotate_left; (focus (intro w hSw; (try dsimp only at hSw); go_simp; (try with_reducible rfl))); (try simp only [Act.put, List.setIfInBounds_toArray, List.set_cons_zero, List.set_cons_succ]))
      (refine wpAnyLT_take (i := 16) (oi := { dst := some 72, op := Op.fieldAddr 50 (Operand.tmp 4) 2, type := 0, pos := "farm.go:146", after := #[{ on := 24, ground := Ground.gcOnly Departure.lateStores }], guard := none }) (v := ?_) rfl (by kernel_rfl) (by kernel_rfl) (by kernel_rfl) (fun _ _ _ h => h) (Or.inl ⟨by rfl, ?_⟩) (by assumption) (by kernel_rfl) (by rfl) (by kernel_rfl) ?_; rotate_left; (focus (intro w hSw; (try dsimp only at hSw); go_simp; (try with_reducible rfl))); (try simp only [Act.put, List.setIfInBounds_toArray, List.set_cons_zero, List.set_cons_succ]))
      (refine wpAnyLT_take (i := 17) (oi := { dst := some 73, op := Op.load 3 (Operand.tmp 72), type := 3, pos := "farm.go:146", after := #[{ on := 16, ground := Ground.data }, { on := 24, ground := Ground.gcOnly Departure.lateStores }], guard := none }) (v := ?_) rfl (by kernel_rfl) (by kernel_rfl) (by kernel_rfl) (fun _ _ _ h => h) (Or.inl ⟨by rfl, ?_⟩) (by assumption) (by kernel_rfl) (by rfl) (by kernel_rfl) ?_; rotate_left; (focus (intro w hSw; (try dsimp only at hSw); go_simp; (try with_reducible rfl))); (try simp only [Act.put, List.setIfInBounds_toArray, List.set_cons_zero, List.set_cons_succ]))
      (refine wpAnyLT_take (i := 18) (oi := { dst := some 74, op := Op.fieldAddr 50 (Operand.tmp 4) 3, type := 0, pos := "farm.go:146", after := #[{ on := 22, ground := Ground.gcOnly Departure.lateStores }], guard := none }) (v := ?_) rfl (by kernel_rfl) (by kernel_rfl) (by kernel_rfl) (fun _ _ _ h => h) (Or.inl ⟨by rfl, ?_⟩) (by assumption) (by kernel_rfl) (by rfl) (by kernel_rfl) ?_; rotate_left; (focus (intro w hSw; (try dsimp only at hSw); go_simp; (try with_reducible rfl))); (try simp only [Act.put, List.setIfInBounds_toArray, List.set_cons_zero, List.set_cons_succ]))
      (refine wpAnyLT_take (i := 19) (oi := { dst := some 75, op := Op.load 44 (Operand.tmp 74), type := 44, pos := "farm.go:146", after := #[{ on := 18, ground := Ground.data }, { on := 22, ground := Ground.gcOnly Departure.lateStores }], guard := none }) (v := ?_) rfl (by kernel_rfl) (by kernel_rfl) (by kernel_rfl) (fun _ _ _ h => h) (Or.inl ⟨by rfl, ?_⟩) (by assumption) (by kernel_rfl) (by rfl) (by kernel_rfl) ?_; rotate_left; (focus (intro w hSw; (try dsimp only at hSw); go_simp; (try with_reducible rfl))); (try simp only [Act.put, List.setIfInBounds_toArray, List.set_cons_zero, List.set_cons_succ]))
      (refine wpAnyLT_take (i := 20) (oi := { dst := some 76, op := Op.build 76 #[], type := 76, pos := "farm.go:146", after := #[], guard := none }) (v := ?_) rfl (by kernel_rfl) (by kernel_rfl) (by kernel_rfl) (fun _ _ _ h => h) (Or.inl ⟨by rfl, ?_⟩) (by assumption) (by kernel_rfl) (by rfl) (by kernel_rfl) ?_; rotate_left; (focus (intro w hSw; (try dsimp only at hSw); go_simp; (try with_reducible rfl))); (try simp only [Act.put, List.setIfInBounds_toArray, List.set_cons_zero, List.set_cons_succ]))
      (refine wpAnyLT_take (i := 21) (oi := { dst := some 77, op := Op.indexAddr 24 (Operand.tmp 59) (Operand.tmp 61), type := 0, pos := "farm.go:146", after := #[{ on := 3, ground := Ground.data }, { on := 5, ground := Ground.data }, { on := 0, ground := Ground.phase }, { on := 1, ground := Ground.phase }, { on := 2, ground := Ground.phase }, { on := 3, ground := Ground.phase }, { on := 4, ground := Ground.phase }, { on := 5, ground := Ground.phase }, { on := 6, ground := Ground.textOnly Departure.lateStores }, { on := 7, ground := Ground.textOnly Departure.lateStoresUnsure }, { on := 8, ground := Ground.textOnly Departure.lateStoresUnsure }, { on := 9, ground := Ground.phase }, { on := 10, ground := Ground.textOnly Departure.lateStores }, { on := 11, ground := Ground.textOnly Departure.lateStores }, { on := 12, ground := Ground.textOnly Departure.lateStores }, { on := 13, ground := Ground.textOnly Departure.lateStoresUnsure }, { on := 14, ground := Ground.textOnly Departure.lateStoresUnsure }, { on := 15, ground := Ground.phase }, { on := 16, ground := Ground.textOnly Departure.lateStores }, { on := 17, ground := Ground.textOnly Departure.lateStores }, { on := 18, ground := Ground.textOnly Departure.lateStores }, { on := 19, ground := Ground.textOnly Departure.lateStores }, { on := 20, ground := Ground.textOnly Departure.lateStoresUnsure }], guard := none }) (v := ?_) rfl (by kernel_rfl) (by kernel_rfl) (by kernel_rfl) (fun _ _ _ h => h) (Or.inl ⟨by rfl, ?_⟩) (by assumption) (by kernel_rfl) (by rfl) (by kernel_rfl) ?_; rotate_left; (focus (intro w hSw; (try dsimp only at hSw); go_simp; (try with_reducible rfl))); (try simp only [Act.put, List.setIfInBounds_toArray, List.set_cons_zero, List.set_cons_succ]))
      have h4 := h3.all hb
      have hm4 := hm3.all hb
      have hB4 := hB3.trans (hb.mono h3.lt)
      have kF4 := kF.all hb
      have kf4 := kf3.trans (KF.below hb)
      have kM4 := kM3.all hb
      have HVD' : Hid (({ f with nt := f.nt.eraseIdx k } : FrM).da = some ⟨gD, 0, none⟩) := HVD.out
      -- the first store
      have oD := h4.own.dn
      simp only at oD
      rw [HVD.out] at oD
      obtain ⟨u0, i0⟩ := Option.isSome_iff_exists.1 (own_isSome oD (j := n) (by omega))
      have z0 := oD.frozenAt n
      have g1 := oD.stored n (.bool true)
      have hgo1 : wv.grownBy (wv.setCell ⟨gD, n, none⟩ (.bool true)) (Value.slice f.da f.dn.length f.dc).ownBlock := by rw [HVD.out]; exact g1.2
      have h5 := h4.dn1 HVD'.out n true
      have hm5 := hm4.kept_ty h4.own.dn (by decide) (by decide) (by decide) (by decide) hgo1
      have eD : gD ≠ g := fun e => by subst e; obtain ⟨cur, kk⟩ := own_cur' oD; exact kk.ne_ h4.blk (by decide) rfl
      have eDM : gD ≠ gM := fun e => by subst e; obtain ⟨cur, kk⟩ := own_cur' oD; exact kk.ne_ kM4 (by decide) rfl
      have kF5 := kF4.far (p := ⟨gD, n, none⟩) (Ne.symm eD) (.bool true)
      have kM5 := kM4.far (p := ⟨gD, n, none⟩) (Ne.symm eDM) (.bool true)
      have hB5 := hB4.setCell (p := ⟨gD, n, none⟩) hgD0 (.bool true)
      have kf5 := kf4.trans (KF.row h4.own.dn (by decide) hgo1)
      clear oD g1 hgo1 h3 hm3 hB3 hb hS kF kM3
      (refine wpAnyL_ready (rs := [22]) (by kernel_rfl) (by simp) ?_; refine List.forall_mem_cons.2 ⟨?_, fun _ h => by cases h⟩)
      (refine stepL (o := { dst := none, op := Op.store 4 (Operand.tmp 77) (Operand.const (Value.bool true)), type := 0, pos := "farm.go:146", after := #[{ on := 21, ground := Ground.data }, { on := 0, ground := Ground.phase }, { on := 1, ground := Ground.phase }, { on := 2, ground := Ground.phase }, { on := 3, ground := Ground.phase }, { on := 4, ground := Ground.phase }, { on := 5, ground := Ground.phase }, { on := 6, ground := Ground.textOnly Departure.lateStores }, { on := 7, ground := Ground.textOnly Departure.lateStoresUnsure }, { on := 8, ground := Ground.textOnly Departure.lateStoresUnsure }, { on := 9, ground := Ground.phase }, { on := 10, ground := Ground.textOnly Departure.lateStores }, { on := 11, ground := Ground.textOnly Departure.lateStores }, { on := 12, ground := Ground.textOnly Departure.lateStores }, { on := 13, ground := Ground.textOnly Departure.lateStoresUnsure }, { on := 14, ground := Ground.textOnly Departure.lateStoresUnsure }, { on := 15, ground := Ground.phase }, { on := 16, ground := Ground.textOnly Departure.lateStores }, { on := 17, ground := Ground.textOnly Departure.lateStores }, { on := 18, ground := Ground.textOnly Departure.lateStores }, { on := 19, ground := Ground.textOnly Departure.lateStores }, { on := 20, ground := Ground.textOnly Departure.lateStoresUnsure }], guard := none }) rfl (fun K hK => ?_); go_simp; refine hK.out _ _ (⟨kF5.cell 3, kF5.cell 4, kF5.cell 5, kM5.cell 2, kM5.cell 3, kM5.cell 4⟩) (fun hHeld => ?_); (clear hK K; (try simp only [Act.put, List.setIfInBounds_toArray, List.set_cons_zero, List.set_cons_succ])))
      obtain ⟨w5, hw5⟩ : ∃ x, x = wv.setCell ⟨gD, n, none⟩ (.bool true) := ⟨_, rfl⟩
      rw [← hw5] at h5 hm5 kF5 kM5 hB5 kf5 hHeld ⊢
      clear hw5 i0 z0 h4 hm4 kF4 kM4 hB4
      (refine wpAnyLT_take (i := 23) (oi := { dst := some 78, op := Op.indexAddr 22 (Operand.tmp 65) (Operand.tmp 67), type := 0, pos := "farm.go:146", after := #[{ on := 9, ground := Ground.data }, { on := 11, ground := Ground.data }, { on := 0, ground := Ground.phase }, { on := 1, ground := Ground.phase }, { on := 2, ground := Ground.phase }, { on := 3, ground := Ground.phase }, { on := 4, ground := Ground.phase }, { on := 5, ground := Ground.phase }, { on := 6, ground := Ground.phase }, { on := 7, ground := Ground.phase }, { on := 8, ground := Ground.phase }, { on := 9, ground := Ground.phase }, { on := 10, ground := Ground.phase }, { on := 11, ground := Ground.phase }, { on := 12, ground := Ground.textOnly Departure.lateStores }, { on := 13, ground := Ground.textOnly Departure.lateStoresUnsure }, { on := 14, ground := Ground.textOnly Departure.lateStoresUnsure }, { on := 15, ground := Ground.phase }, { on := 16, ground := Ground.textOnly Departure.lateStores }, { on := 17, ground := Ground.textOnly Departure.lateStores }, { on := 18, ground := Ground.phase }, { on := 19, ground := Ground.phase }, { on := 20, ground := Ground.textOnly Departure.lateStoresUnsure }, { on := 21, ground := Ground.phase }, { on := 22, ground := Ground.phase }], guard := none }) (v := ?_) rfl (by kernel_rfl) (by kernel_rfl) (by kernel_rfl) (fun _ _ _ h => h) (Or.inl ⟨by rfl, ?_⟩) (by assumption) (by kernel_rfl) (by rfl) (by kernel_rfl) ?_; rotate_left; (focus (intro w hSw; (try dsimp only at hSw); go_simp; (try with_reducible rfl))); (try simp only [Act.put, List.setIfInBounds_toArray, List.set_cons_zero, List.set_cons_succ]))
      -- the second store
      have oH := h5.own.hv
      simp only at oH
      rw [HVH.out] at oH
      obtain ⟨u0, i0⟩ := Option.isSome_iff_exists.1 (own_isSome oH (j := n * 2) (by omega))
      obtain ⟨u1, i1⟩ := Option.isSome_iff_exists.1 (own_isSome oH (j := n * 2 + 1) (by omega))
      have z0 := oH.frozenAt (n * 2)
      have z1 := oH.frozenAt (n * 2 + 1)
      have h6 := h5.hv1 (show ({ f with nt := f.nt.eraseIdx k, dn := f.dn.set n true } : FrM).ha = some ⟨gH, 0, none⟩ from HVH.out) (show ({ f with nt := f.nt.eraseIdx k, dn := f.dn.set n true } : FrM).hv[n]? = some y from HY.out) hm5
      have eH : gH ≠ g := fun e => by subst e; obtain ⟨cur, kk⟩ := own_cur' oH; exact kk.ne_ h5.blk (by decide) rfl
      have eHM : gH ≠ gM := fun e => by subst e; obtain ⟨cur, kk⟩ := own_cur' oH; exact kk.ne_ kM5 (by decide) rfl
      have kF6 := (kF5.far (p := ⟨gH, n * 2, none⟩) (Ne.symm eH) (.slice m.p.fa m.p.frs.length m.p.fc)).far (p := ⟨gH, n * 2 + 1, none⟩) (Ne.symm eH) (.slice m.p.da m.p.dfs.length m.p.dc)
      have kM6 := (kM5.far (p := ⟨gH, n * 2, none⟩) (Ne.symm eHM) (.slice m.p.fa m.p.frs.length m.p.fc)).far (p := ⟨gH, n * 2 + 1, none⟩) (Ne.symm eHM) (.slice m.p.da m.p.dfs.length m.p.dc)
      have hB6 := (hB5.setCell (p := ⟨gH, n * 2, none⟩) hgH0 (.slice m.p.fa m.p.frs.length m.p.fc)).setCell (p := ⟨gH, n * 2 + 1, none⟩) hgH0 (.slice m.p.da m.p.dfs.length m.p.dc)
      obtain ⟨cur, kH⟩ := own_cur' oH
      have kf6 := (kf5.trans (KF.other (j := n * 2) (u := .slice m.p.fa m.p.frs.length m.p.fc) kH (by decide))).trans (KF.other (j := n * 2 + 1) (u := .slice m.p.da m.p.dfs.length m.p.dc) (kH.set_ (n * 2) _) (by decide))
      clear oH kH
      (refine wpAnyL_ready (rs := [24]) (by kernel_rfl) (by simp) ?_; refine List.forall_mem_cons.2 ⟨?_, fun _ h => by cases h⟩)
      (refine stepL (o := { dst := none, op := Op.store 44 (Operand.tmp 78) (Operand.tmp 75), type := 0, pos := "farm.go:146", after := #[{ on := 23, ground := Ground.data }, { on := 19, ground := Ground.data }, { on := 22, ground := Ground.chain }, { on := 0, ground := Ground.phase }, { on := 1, ground := Ground.phase }, { on := 2, ground := Ground.phase }, { on := 3, ground := Ground.phase }, { on := 4, ground := Ground.phase }, { on := 5, ground := Ground.phase }, { on := 6, ground := Ground.phase }, { on := 7, ground := Ground.phase }, { on := 8, ground := Ground.phase }, { on := 9, ground := Ground.phase }, { on := 10, ground := Ground.phase }, { on := 11, ground := Ground.phase }, { on := 12, ground := Ground.textOnly Departure.lateStores }, { on := 13, ground := Ground.textOnly Departure.lateStoresUnsure }, { on := 14, ground := Ground.textOnly Departure.lateStoresUnsure }, { on := 15, ground := Ground.phase }, { on := 16, ground := Ground.textOnly Departure.lateStores }, { on := 17, ground := Ground.textOnly Departure.lateStores }, { on := 18, ground := Ground.phase }, { on := 19, ground := Ground.phase }, { on := 20, ground := Ground.textOnly Departure.lateStoresUnsure }, { on := 21, ground := Ground.phase }, { on := 22, ground := Ground.phase }], guard := none }) rfl (fun K hK => ?_); go_simp; refine hK.out _ _ (⟨kF6.cell 3, kF6.cell 4, kF6.cell 5, kM6.cell 2, kM6.cell 3, kM6.cell 4⟩) (fun hHeld => ?_); (clear hK K; (try simp only [Act.put, List.setIfInBounds_toArray, List.set_cons_zero, List.set_cons_succ])))
      obtain ⟨w6, hw6⟩ : ∃ x, x = (w5.setCell ⟨gH, n * 2, none⟩ (.slice m.p.fa m.p.frs.length m.p.fc)).setCell ⟨gH, n * 2 + 1, none⟩ (.slice m.p.da m.p.dfs.length m.p.dc) := ⟨_, rfl⟩
      rw [← hw6] at h6 kF6 kM6 hB6 kf6 hHeld ⊢
      clear hw6 i0 i1 z0 z1 h5 hm5 kF5 kM5 hB5
      (refine wpAnyLT_take (i := 25) (oi := { dst := some 79, op := Op.indexAddr 25 (Operand.tmp 71) (Operand.tmp 73), type := 0, pos := "farm.go:146", after := #[{ on := 15, ground := Ground.data }, { on := 17, ground := Ground.data }, { on := 0, ground := Ground.phase }, { on := 1, ground := Ground.phase }, { on := 2, ground := Ground.phase }, { on := 3, ground := Ground.phase }, { on := 4, ground := Ground.phase }, { on := 5, ground := Ground.phase }, { on := 6, ground := Ground.phase }, { on := 7, ground := Ground.phase }, { on := 8, ground := Ground.phase }, { on := 9, ground := Ground.phase }, { on := 10, ground := Ground.phase }, { on := 11, ground := Ground.phase }, { on := 12, ground := Ground.phase }, { on := 13, ground := Ground.phase }, { on := 14, ground := Ground.phase }, { on := 15, ground := Ground.phase }, { on := 16, ground := Ground.phase }, { on := 17, ground := Ground.phase }, { on := 18, ground := Ground.phase }, { on := 19, ground := Ground.phase }, { on := 20, ground := Ground.phase }, { on := 21, ground := Ground.phase }, { on := 22, ground := Ground.phase }, { on := 23, ground := Ground.phase }, { on := 24, ground := Ground.phase }], guard := none }) (v := ?_) rfl (by kernel_rfl) (by kernel_rfl) (by kernel_rfl) (fun _ _ _ h => h) (Or.inl ⟨by rfl, ?_⟩) (by assumption) (by kernel_rfl) (by rfl) (by kernel_rfl) ?_; rotate_left; (focus (intro w hSw; (try dsimp only at hSw); go_simp; (try with_reducible rfl))); (try simp only [Act.put, List.setIfInBounds_toArray, List.set_cons_zero, List.set_cons_succ]))
      have oG := h6.own.gs
      simp only at oG
      rw [HVG.out] at oG
      obtain ⟨u0, i0⟩ := Option.isSome_iff_exists.1 (own_isSome oG (j := n * 2) (by omega))
      obtain ⟨u1, i1⟩ := Option.isSome_iff_exists.1 (own_isSome oG (j := n * 2 + 1) (by omega))
      have z0 := oG.frozenAt (n * 2)
      have z1 := oG.frozenAt (n * 2 + 1)
      have h7 := h6.gs1 (show ({ f with nt := f.nt.eraseIdx k, dn := f.dn.set n true, hv := f.hv.set n m.p } : FrM).ga = some ⟨gG, 0, none⟩ from HVG.out) (show ({ f with nt := f.nt.eraseIdx k, dn := f.dn.set n true, hv := f.hv.set n m.p } : FrM).gs[n]? = some z from HZ.out) 0 0
      have eG : gG ≠ g := fun e => by subst e; obtain ⟨cur, kk⟩ := own_cur' oG; exact kk.ne_ h6.blk (by decide) rfl
      have eGM : gG ≠ gM := fun e => by subst e; obtain ⟨cur, kk⟩ := own_cur' oG; exact kk.ne_ kM6 (by decide) rfl
      have kF7 := (kF6.far (p := ⟨gG, n * 2, none⟩) (Ne.symm eG) (.int .i64 0)).far (p := ⟨gG, n * 2 + 1, none⟩) (Ne.symm eG) (.int .i64 0)
      have kM7 := (kM6.far (p := ⟨gG, n * 2, none⟩) (Ne.symm eGM) (.int .i64 0)).far (p := ⟨gG, n * 2 + 1, none⟩) (Ne.symm eGM) (.int .i64 0)
      have hB7 := (hB6.setCell (p := ⟨gG, n * 2, none⟩) hgG0 (.int .i64 0)).setCell (p := ⟨gG, n * 2 + 1, none⟩) hgG0 (.int .i64 0)
      obtain ⟨cur, kG⟩ := own_cur' oG
      have kf7 := (kf6.trans (KF.other (j := n * 2) (u := .int .i64 0) kG (by decide))).trans (KF.other (j := n * 2 + 1) (u := .int .i64 0) (kG.set_ (n * 2) _) (by decide))
      clear oG kG
      (refine wpAnyL_ready (rs := [26]) (by kernel_rfl) (by simp) ?_; refine List.forall_mem_cons.2 ⟨?_, fun _ h => by cases h⟩)
      (refine stepL (o := { dst := none, op := Op.store 76 (Operand.tmp 79) (Operand.tmp 76), type := 0, pos := "farm.go:146", after := #[{ on := 25, ground := Ground.data }, { on := 20, ground := Ground.data }, { on := 24, ground := Ground.chain }, { on := 0, ground := Ground.phase }, { on := 1, ground := Ground.phase }, { on := 2, ground := Ground.phase }, { on := 3, ground := Ground.phase }, { on := 4, ground := Ground.phase }, { on := 5, ground := Ground.phase }, { on := 6, ground := Ground.phase }, { on := 7, ground := Ground.phase }, { on := 8, ground := Ground.phase }, { on := 9, ground := Ground.phase }, { on := 10, ground := Ground.phase }, { on := 11, ground := Ground.phase }, { on := 12, ground := Ground.phase }, { on := 13, ground := Ground.phase }, { on := 14, ground := Ground.phase }, { on := 15, ground := Ground.phase }, { on := 16, ground := Ground.phase }, { on := 17, ground := Ground.phase }, { on := 18, ground := Ground.phase }, { on := 19, ground := Ground.phase }, { on := 20, ground := Ground.phase }, { on := 21, ground := Ground.phase }, { on := 22, ground := Ground.phase }, { on := 23, ground := Ground.phase }, { on := 24, ground := Ground.phase }], guard := none }) rfl (fun K hK => ?_); go_simp; refine hK.out _ _ (⟨kF7.cell 3, kF7.cell 4, kF7.cell 5, kM7.cell 2, kM7.cell 3, kM7.cell 4⟩) (fun hHeld => ?_); (clear hK K; (try simp only [Act.put, List.setIfInBounds_toArray, List.set_cons_zero, List.set_cons_succ])))
      refine wpAnyL_done (by kernel_rfl) ?_ _
      clear i0 i1 z0 z1 h6 kF6 kM6 hB6 kF7 kM7
      (go_wp2; (first | go_end0 | refine bodyPost_ret (results_none rfl _ _ _) rfl ?_))
      refine ⟨rfl, _, h7, ?_, hB7, kf7⟩
      (try rw [HE.out])
      simp only [FrM.er, MsM.er, HNN.out, Int.toNat_natCast, map_erase, List.map_set]
      rfl
end Go.Proofs.Ytkfmkemjoddinaa
