/- FmQ: texts that belong together. -/
import Derived.Deep.RegionLaw
import Derived.Test.YtkfmkemjoddinaaApp
import Derived.Test.YtkfmkemjoddinaaFarmW
import Derived.Test.YtkfmkemjoddinaaHdB
set_option linter.all false
/- slices.Delete at messages; farm.send: what they do. -/
namespace Go.Proofs.Ytkfmkemjoddinaa
open Go.RowKit
set_option maxRecDepth 100000

theorem mssV_len (l : List MsM) : (mssV l).length = l.length * 5 := flatMap_len MsM.cells_len l
theorem zero_msg (w : World) : (zeroValue 50).run Try.prog w = .ok (.agg #[.int .i64 0, .int .i64 0, .int .i64 0, .slice none 0 0, .slice none 0 0]) w := by kernel_rfl
set_option maxHeartbeats 8000000 in
theorem deleteMsg_any (base : Nat) (A : Option Addr) (c : Nat) (l : List MsM) (k : Nat) (w : World) (hO : w.ownsRow base 50 5 (.slice A l.length c) l.length (mssV l)) (hk : k < l.length) (hlm : l.length ≤ 1000) :
    Calls Try.prog 53 #[.slice A l.length c, .int .i64 (k : Int), .int .i64 ((k : Int) + 1)] w fun e w' => e = .returned (.slice A (l.length - 1) c) ∧
      w'.ownsRow base 50 5 (.slice A (l.length - 1) c) (l.length - 1) (mssV (l.eraseIdx k)) ∧ w.grownBy w' (Value.slice A l.length c).ownBlock := by
  obtain ⟨g, cap, hv, hg0, hg1⟩ := hO.form (by omega)
  obtain ⟨rfl, rfl⟩ : A = some ⟨g, 0, none⟩ ∧ c = cap := by
    simp only [Value.slice.injEq, true_and] at hv
    exact hv
  clear hv
  obtain ⟨_, _, e', hlc, hcm⟩ := own_form hO
  simp only [Value.slice.injEq, true_and] at e'
  obtain ⟨rfl, rfl⟩ := e'
  obtain ⟨r, hr⟩ : ∃ r, l.length = k + 1 + r := ⟨l.length - (k + 1), by omega⟩
  obtain ⟨news, hnews⟩ : ∃ news, news = mssV (l.drop (k + 1)) := ⟨_, rfl⟩
  have hlen : news.length = r * 5 := by rw [hnews, mssV_len, List.length_drop, hr]; omega
  have hsplit : mssV l = mssV (l.take (k + 1)) ++ news := by rw [hnews, ← mssV_append, List.take_append_drop]
  have hmin : min (k + 1) l.length = k + 1 := by omega
  have hget : ∀ t u, news[t]? = some u → w.cell? ⟨g, (k + 1) * 5 + t, none⟩ = some u := fun t u hu => by
    have ht : t < news.length := (List.getElem?_eq_some_iff.1 hu).1
    rw [hO.cellAt _ (by omega), hsplit, List.getElem?_append_right (by rw [mssV_len, List.length_take, hmin]; omega), mssV_len, List.length_take, hmin]
    rw [show (k + 1) * 5 + t - (k + 1) * 5 = t by omega]
    exact hu
  have hmine : mssV (l.eraseIdx k) = (setL (mssV l) (k * 5) news).take ((k + r) * 5) := by
    have e1 : mssV l = mssV (l.take k) ++ mssV (l.drop k) := by rw [← mssV_append, List.take_append_drop]
    have l1 : (mssV (l.take k)).length = k * 5 := by rw [mssV_len, List.length_take, Nat.min_eq_left (by omega)]
    rw [setL_eq _ _ _ (by rw [hlen, mssV_len, hr]; omega), List.take_append_of_le_length (by rw [List.length_append, List.length_take, mssV_len, hlen, hr]; omega), List.take_of_length_le (by rw [List.length_append, List.length_take, mssV_len, hlen]; omega), e1, ← l1, List.take_left, hnews, ← mssV_append, List.eraseIdx_eq_take_drop_succ]
  obtain ⟨AD, hA, hsrc⟩ : ∃ A : Addr, (if c = k + 1 then (some ⟨g, 0, none⟩ : Option Addr) else some ⟨g, (k + 1) * 5, none⟩) = some A ∧ Hid (∀ t u, news[t]? = some u → w.drew.cell? (A.add t) = some u) := by
    by_cases h : c = k + 1
    · refine ⟨⟨g, 0, none⟩, by rw [if_pos h], fun t u hu => ?_⟩
      have h0 : news.length = 0 := by omega
      rw [List.length_eq_zero_iff.1 h0] at hu
      simp at hu
    · refine ⟨⟨g, (k + 1) * 5, none⟩, by rw [if_neg h], fun t u hu => ?_⟩
      rw [add_none]
      exact hget t u hu
  obtain ⟨i0, hi, hz0, hz1, hz2⟩ := info_parts Try.infoMsgsF
  have s1 : Hid (news.length = r * 5) := hlen
  have s2 : Hid (∀ u ∈ news, u.oneCell' = true) := by show ∀ u ∈ news, _; rw [hnews]; exact mss_one _
  have s3 : Hid (∀ t, t < news.length → (w.drew.cell? ⟨g, 0 + k * 5 + t, none⟩).isSome = true ∧ w.drew.frozen? ⟨g, 0 + k * 5 + t, none⟩ = false) := by
    intro t ht
    rw [hlen] at ht
    exact ⟨own_isSome hO (j := 0 + k * 5 + t) (by omega), hO.frozenAt _⟩
  have hO1 := own_cells news (0 + k * 5) w.drew _ hO.drew
  obtain ⟨W1, hW1⟩ : ∃ W, W = w.drew.setCells g (0 + k * 5) news := ⟨_, rfl⟩
  rw [← hW1] at hO1
  have hO2 := own_less hO1.1 (k := k + r) (by omega)
  rw [Nat.zero_add, ← hmine] at hO2
  have hcl : ∀ ty, (Builtin.clear_ #[27] ty #[.slice (some ⟨g, (k + r) * 5, none⟩) (k + 1 + r - (k + r)) (c - (k + r))]).run Try.prog W1 = .ok (.tuple #[]) (W1.setCells g ((k + r) * 5) ([()].flatMap fun _ => #[Value.int .i64 0, .int .i64 0, .int .i64 0, .slice none 0 0, .slice none 0 0].toList)) := fun ty =>
    run_clear_k [()] W1 _ _ ty (.agg #[.int .i64 0, .int .i64 0, .int .i64 0, .slice none 0 0, .slice none 0 0]) Try.underlying27 zero_msg (by decide) (by intro u hu; simp [Value.cells] at hu; rcases hu with rfl | rfl | rfl | rfl | rfl <;> rfl) g ((k + r) * 5) (k + 1 + r - (k + r)) _ (by simp only [List.length_singleton]; omega) (by omega)
      (fun j hj => own_isSome hO1.1 (j := (k + r) * 5 + j) (by rw [show k + 1 + r - (k + r) = 1 by omega] at hj; simp [Value.cells] at hj; omega)) (fun j hj => hO1.1.frozenAt _)
  have hO3 := own_cells ([()].flatMap fun _ => #[Value.int .i64 0, .int .i64 0, .int .i64 0, .slice none 0 0, .slice none 0 0].toList) ((k + r) * 5) W1 _ hO2
  rw [setL_out _ _ _ (by rw [hO2.1]; exact Nat.le_refl _)] at hO3
  have hG3 : w.grownBy (W1.setCells g ((k + r) * 5) ([()].flatMap fun _ => #[Value.int .i64 0, .int .i64 0, .int .i64 0, .slice none 0 0, .slice none 0 0].toList)) (some g) := World.grownBy.trans (World.grownBy.trans (show w.grownBy w.drew (some g) from ⟨rfl, rfl, rfl, Nat.le_refl _, fun _ _ _ => rfl⟩) hO1.2) hO3.2
  have HO3 := Lib.hid hO3.1
  have HG3 := Lib.hid hG3
  have hW := Lib.hid hW1
  have t1 : k ≤ c := by omega
  have t2 : k + 1 ≤ c := by omega
  have t3 : (0 : Int) ≤ (k : Int) + 1 := by omega
  have t4 : (k : Int) + 1 ≤ (k : Int) + 1 + (r : Int) := by omega
  have t5 : k + r ≤ c := by omega
  have t6 : (0 : Int) ≤ (k : Int) + (r : Int) := by omega
  have t7 : (k : Int) + (r : Int) ≤ (k : Int) + 1 + (r : Int) := by omega
  have t8 : k + r ≤ k + 1 + r := by omega
  have t9 : ¬ c = k + r := by omega
  have ta : k + 1 + r ≤ c := by omega
  rw [hr] at hO ⊢
  clear hO3 hG3 hO2 hO1 hW1 hmine hget hsplit hnews hlen hmin hO hk hlm
  rw [show k + 1 + r - 1 = k + r by omega]
  go_enter Try.func53, Try.ntmps53
  go_upto_region 5 with (fail)
  go_region_law (refine step_append_room rfl (.tmp 22) (.tmp 25) 27 rfl 50 i0 5 Try.underlying27 hi hz1 g 0 k c (by simp [Act.eval, Act.put]) AD r (c - (k + 1)) news (by simp [Act.eval, Act.put]) s1.out hsrc.out s2.out (by omega) s3.out ?_; rw [← hW.out])
  all_goals go_wp2
  all_goals go_ret
  all_goals exact ⟨rfl, HO3.out, HG3.out⟩
end Go.Proofs.Ytkfmkemjoddinaa

/- farm.send: what it does. -/
namespace Go.Proofs.Ytkfmkemjoddinaa
open Go.RowKit
set_option maxRecDepth 100000

theorem ms_one (m : MsM) : ∀ u ∈ m.cells, u.oneCell' = true := fun u hu => mss_one [m] u (by simpa [mssV] using hu)
/-- Farms' boxes but one stay as they are. -/
def KF (g : Nat) (w w' : World) : Prop := ∀ b cs, b ≠ g → Blk w b 29 cs → Blk w' b 29 cs
theorem KF.refl (g : Nat) (w : World) : KF g w w := fun _ _ _ h => h
theorem KF.trans {g : Nat} {a b c : World} (h : KF g a b) (h' : KF g b c) : KF g a c := fun x cs hx hb => h' x cs hx (h x cs hx hb)
theorem KF.below {g : Nat} {w w' : World} (h : Below w.heap.size w w') : KF g w w' := fun _ _ _ hb => hb.all h
theorem KF.row {g base size n : Nat} {w w' : World} {e : TypeId} {v : Value} {xs : List Value} (ho : w.ownsRow base e size v n xs) (hne : e ≠ 29) (hg : w.grownBy w' v.ownBlock) : KF g w w' := fun _ _ _ hb => hb.grown hg (own_blk_ne ho hb hne).symm
theorem KF.box {g j : Nat} {w : World} {u : Value} : KF g w (w.setCell ⟨g, j, none⟩ u) := fun _ _ hx hb => hb.far (by exact hx) u
theorem KF.other {g g' j : Nat} {w : World} {t : TypeId} {cs' : Array Value} {u : Value} (kb : Blk w g' t cs') (hne : t ≠ 29) : KF g w (w.setCell ⟨g', j, none⟩ u) := fun _ _ _ hb => hb.far (p := ⟨g', j, none⟩) (hb.ne_ kb (Ne.symm hne)) u
theorem KF.drewN {g : Nat} {w : World} (n : Nat) : KF g w (w.drewN n) := KF.below (below_drewN (Below.refl _ _) n)
def PutIs (w : World) (base g : Nat) (r : Frm) (e : Ending) (w' : World) : Prop := e = .returned (.tuple #[]) ∧ ∃ f' : FrM, FB w' base g f' ∧ f'.er = r ∧ Below base w w' ∧ KF g w w'
theorem FB.lt {w : World} {base g : Nat} {f : FrM} (h : FB w base g f) : base ≤ w.heap.size := Nat.le_trans h.lo (Nat.le_of_lt h.blk.lt)
set_option maxHeartbeats 20000000 in
theorem send_any (f : FrM) (m : MsM) (base g : Nat) (w : World) (h : FB w base g f) (hm : m.p.Own w base) (hn : f.nt.length ≤ 20) :
    Calls Try.prog 54 #[.pointer (some ⟨g, 0, none⟩), .agg #[.int .i64 m.kind, .int .i64 m.worker, .int .i64 m.n, .slice m.p.fa m.p.frs.length m.p.fc, .slice m.p.da m.p.dfs.length m.p.dc]] w (PutIs w base g (sendP f.er m.er)) := by
  unfold PutIs
  have hlt := h.lt
  have hlo := h.lo
  have hgl := h.blk.lt
  have hntl := fun x hx => (h.own.nt.lt x hx).2
  have hbx : Below w.heap.size w (w.alloc (.cells #[.int .i64 m.kind, .int .i64 m.worker, .int .i64 m.n, .slice m.p.fa m.p.frs.length m.p.fc, .slice m.p.da m.p.dfs.length m.p.dc] 50)) := by (repeat' (first | exact Below.refl _ _ | assumption | refine Below.setCell ?_ (by first | omega | exact Below.size (by assumption) | (simp; done) | (simp; omega)) _ | refine Below.alloc ?_ (by first | omega | exact Below.size (by assumption) | (simp; done) | (simp; omega)) _ | refine Below.drew ?_ | refine below_drewN ?_ _))
  have kM := Blk.new w 50 #[.int .i64 m.kind, .int .i64 m.worker, .int .i64 m.n, .slice m.p.fa m.p.frs.length m.p.fc, .slice m.p.da m.p.dfs.length m.p.dc]
  replace h := h.all hbx
  replace hm := hm.all hbx
  go_enter Try.func54, Try.ntmps54
  go_upto_region 1 with (fail)
  obtain ⟨gM, hgM⟩ : ∃ x, x = w.heap.size := ⟨_, rfl⟩
  obtain ⟨W, hW⟩ : ∃ x, x = w.alloc (.cells #[.int .i64 m.kind, .int .i64 m.worker, .int .i64 m.n, .slice m.p.fa m.p.frs.length m.p.fc, .slice m.p.da m.p.dfs.length m.p.dc] 50) := ⟨_, rfl⟩
  rw [← hgM] at kM ⊢
  have hB0 := hbx.mono hlt
  have kf0 : KF g w (w.alloc (.cells #[.int .i64 m.kind, .int .i64 m.worker, .int .i64 m.n, .slice m.p.fa m.p.frs.length m.p.fc, .slice m.p.da m.p.dfs.length m.p.dc] 50)) := KF.below hbx
  have hlt2 : base ≤ gM := by omega
  have hne : gM ≠ g := by omega
  rw [← hgM] at hntl
  rw [← hW] at kM h hm hB0 kf0 ⊢
  clear hW hgM hbx hlt
  have kF := h.blk
  have q7 := kF.cell 7
  by_cases hl : f.nt.length < 20
  · have hE : sendP f.er m.er = { f.er with nt := f.er.nt ++ [m.er] } := by unfold sendP; rw [if_pos (by simpa [FrM.er] using hl)]
    have hD : decide ((f.nt.length : Int) < 20) = true := decide_eq_true (by omega)
    obtain ⟨i0, hi, hz0, hz1, hz2⟩ := info_parts Try.infoMsgsF
    go_upto_region 2 with (fail)
    have hS : Hid (∀ w', Below W.heap.size W w' → (w'.cell? ⟨g, 7, none⟩ = some (.slice f.na f.nt.length f.nc) ∧ w'.cell? ⟨gM, 0, none⟩ = some (.int .i64 m.kind) ∧ w'.cell? ⟨gM, 1, none⟩ = some (.int .i64 m.worker) ∧ w'.cell? ⟨gM, 2, none⟩ = some (.int .i64 m.n) ∧ w'.cell? ⟨gM, 3, none⟩ = some (.slice m.p.fa m.p.frs.length m.p.fc) ∧ w'.cell? ⟨gM, 4, none⟩ = some (.slice m.p.da m.p.dfs.length m.p.dc))) :=
      fun w' h => ⟨(kF.all h).cell 7, (kM.all h).cell 0, (kM.all h).cell 1, (kM.all h).cell 2, (kM.all h).cell 3, (kM.all h).cell 4⟩
    have hb := (Below.refl W.heap.size W).drew
    refine wp_region_late (S := (fun w' => w'.cell? ⟨g, 7, none⟩ = some (.slice f.na f.nt.length f.nc) ∧ w'.cell? ⟨gM, 0, none⟩ = some (.int .i64 m.kind) ∧ w'.cell? ⟨gM, 1, none⟩ = some (.int .i64 m.worker) ∧ w'.cell? ⟨gM, 2, none⟩ = some (.int .i64 m.n) ∧ w'.cell? ⟨gM, 3, none⟩ = some (.slice m.p.fa m.p.frs.length m.p.fc) ∧ w'.cell? ⟨gM, 4, none⟩ = some (.slice m.p.da m.p.dfs.length m.p.dc)))
      [8, 9, 10] (by kernel_rfl) (hS.out _ hb) (fun hHeld => ?_)
    obtain ⟨wv, hwv⟩ : ∃ x, x = W.drew := ⟨_, rfl⟩
    rw [← hwv] at hb hHeld ⊢
    clear hwv
    (refine wpAnyLT_take (i := 0) (oi := { dst := some 10, op := Op.move (Operand.tmp 0), type := 69, pos := "farm.go:96", after := #[], guard := none }) (v := ?_) rfl (by kernel_rfl) (by kernel_rfl) (by kernel_rfl) (fun _ _ _ h => h) (Or.inl ⟨by rfl, ?_⟩) (by assumption) (by kernel_rfl) (by rfl) (by kernel_rfl) ?_; rotate_left; (focus (intro w hSw; (try dsimp only at hSw); go_simp; (try with_reducible rfl))); (try simp only [Act.put, List.setIfInBounds_toArray, List.set_cons_zero, List.set_cons_succ]))
    (refine wpAnyLT_take (i := 1) (oi := { dst := some 11, op := Op.move (Operand.tmp 0), type := 69, pos := "farm.go:96", after := #[], guard := none }) (v := ?_) rfl (by kernel_rfl) (by kernel_rfl) (by kernel_rfl) (fun _ _ _ h => h) (Or.inl ⟨by rfl, ?_⟩) (by assumption) (by kernel_rfl) (by rfl) (by kernel_rfl) ?_; rotate_left; (focus (intro w hSw; (try dsimp only at hSw); go_simp; (try with_reducible rfl))); (try simp only [Act.put, List.setIfInBounds_toArray, List.set_cons_zero, List.set_cons_succ]))
    (refine wpAnyLT_take (i := 2) (oi := { dst := some 12, op := Op.nilCheck (Operand.tmp 11), type := 0, pos := "farm.go:96", after := #[{ on := 1, ground := Ground.data }], guard := none }) (v := ?_) rfl (by kernel_rfl) (by kernel_rfl) (by kernel_rfl) (fun _ _ _ h => h) (Or.inl ⟨by rfl, ?_⟩) (by assumption) (by kernel_rfl) (by rfl) (by kernel_rfl) ?_; rotate_left; (focus (intro w hSw; (try dsimp only at hSw); go_simp; (try with_reducible rfl))); (try simp only [Act.put, List.setIfInBounds_toArray, List.set_cons_zero, List.set_cons_succ]))
    (refine wpAnyLT_take (i := 3) (oi := { dst := some 13, op := Op.fieldAddr 29 (Operand.tmp 12) 7, type := 0, pos := "farm.go:96", after := #[{ on := 2, ground := Ground.data }], guard := none }) (v := ?_) rfl (by kernel_rfl) (by kernel_rfl) (by kernel_rfl) (fun _ _ _ h => h) (Or.inl ⟨by rfl, ?_⟩) (by assumption) (by kernel_rfl) (by rfl) (by kernel_rfl) ?_; rotate_left; (focus (intro w hSw; (try dsimp only at hSw); go_simp; (try with_reducible rfl))); (try simp only [Act.put, List.setIfInBounds_toArray, List.set_cons_zero, List.set_cons_succ]))
    (refine wpAnyLT_take (i := 4) (oi := { dst := some 14, op := Op.load 27 (Operand.tmp 13), type := 27, pos := "farm.go:96", after := #[{ on := 3, ground := Ground.data }], guard := none }) (v := ?_) rfl (by kernel_rfl) (by kernel_rfl) (by kernel_rfl) (fun _ _ _ h => h) (Or.inl ⟨by rfl, ?_⟩) (by assumption) (by kernel_rfl) (by rfl) (by kernel_rfl) ?_; rotate_left; (focus (intro w hSw; (try dsimp only at hSw); go_simp; (try with_reducible rfl))); (try simp only [Act.put, List.setIfInBounds_toArray, List.set_cons_zero, List.set_cons_succ]))
    (refine wpAnyLT_take (i := 5) (oi := { dst := some 15, op := Op.load 50 (Operand.tmp 3), type := 50, pos := "farm.go:96", after := #[], guard := none }) (v := ?_) rfl (by kernel_rfl) (by kernel_rfl) (by kernel_rfl) (fun _ _ _ h => h) (Or.inl ⟨by rfl, ?_⟩) (by assumption) (by kernel_rfl) (by rfl) (by kernel_rfl) ?_; rotate_left; (focus (intro w hSw; (try dsimp only at hSw); go_simp; (try with_reducible rfl))); (try simp only [Act.put, List.setIfInBounds_toArray, List.set_cons_zero, List.set_cons_succ]))
    (refine wpAnyL_ready (rs := [6]) (by kernel_rfl) (by simp) ?_; refine List.forall_mem_cons.2 ⟨?_, fun _ h => by cases h⟩)
    (refine stepL (o := { dst := some 16, op := Op.buildSlice 27 1 #[(0, Operand.tmp 15)], type := 27, pos := "farm.go:96", after := #[{ on := 5, ground := Ground.data }], guard := none }) rfl (fun K hK => ?_); go_simp; refine hK.out _ _ (hS.out _ (hb.alloc hb.size _)) (fun hHeld => ?_); (clear hK K; (try simp only [Act.put, List.setIfInBounds_toArray, List.set_cons_zero, List.set_cons_succ])))
    have hb3 := hb.alloc hb.size (.cells #[.int .i64 m.kind, .int .i64 m.worker, .int .i64 m.n, .slice m.p.fa m.p.frs.length m.p.fc, .slice m.p.da m.p.dfs.length m.p.dc] 50)
    have kS := Blk.new wv 50 #[.int .i64 m.kind, .int .i64 m.worker, .int .i64 m.n, .slice m.p.fa m.p.frs.length m.p.fc, .slice m.p.da m.p.dfs.length m.p.dc]
    obtain ⟨gs, hgs⟩ : ∃ x, x = wv.heap.size := ⟨_, rfl⟩
    obtain ⟨wx, hwx⟩ : ∃ x, x = wv.alloc (.cells #[.int .i64 m.kind, .int .i64 m.worker, .int .i64 m.n, .slice m.p.fa m.p.frs.length m.p.fc, .slice m.p.da m.p.dfs.length m.p.dc] 50) := ⟨_, rfl⟩
    rw [← hgs] at kS ⊢
    rw [← hwx] at kS hb3 hHeld ⊢
    clear hwx hgs
    have h3 := h.all hb3
    have hm3 := hm.all hb3
    have kM3 := kM.all hb3
    have rs : Reads wx wx.heap.size 5 (some ⟨gs, 0, none⟩) 1 m.cells := kS.reads (size := 5) (n := 1) rfl
    have oN := h3.own.nt
    have hB3 := h3.lt
    have hBB := hB0.trans (hb3.mono h.lt)
    have kf3 := kf0.trans (KF.below hb3)
    have kF5 : ∀ {w5 : World}, wx.grownBy w5 (Value.slice f.na f.nt.length f.nc).ownBlock → Blk w5 g 29 #[.slice f.pa f.ps.length f.pc, .slice f.la f.pl.length f.lc, .int .i64 f.now, .slice f.da f.dn.length f.dc, .slice f.ha f.hv.length f.hc, .slice f.ga f.gs.length f.gc, .slice f.wa f.wk.length f.wc, .slice f.na f.nt.length f.nc] := fun hg => h3.blk.grown hg (own_blk_ne oN h3.blk (by decide)).symm
    have kM5 : ∀ {w5 : World}, wx.grownBy w5 (Value.slice f.na f.nt.length f.nc).ownBlock → Blk w5 gM 50 #[.int .i64 m.kind, .int .i64 m.worker, .int .i64 m.n, .slice m.p.fa m.p.frs.length m.p.fc, .slice m.p.da m.p.dfs.length m.p.dc] := fun hg => kM3.grown hg (fun e => by
      have := hntl gM e.symm
      omega)
    (refine wpAnyL_ready (rs := [7]) (by kernel_rfl) (by simp) ?_; refine List.forall_mem_cons.2 ⟨?_, fun _ h => by cases h⟩)
    (refine stepL (o := { dst := some 17, op := Op.call { callee := Callee.builtin Builtin.append, args := #[Operand.tmp 14, Operand.tmp 16], argTypes := #[27, 27] }, type := 27, pos := "farm.go:96", after := #[{ on := 4, ground := Ground.data }, { on := 6, ground := Ground.data }], guard := none }) rfl (fun K hK => ?_); refine step_append_any _ rfl (.tmp 14) (.tmp 16) 27 rfl base 50 i0 (.agg #[.int .i64 0, .int .i64 0, .int .i64 0, .slice none 0 0, .slice none 0 0]) 5 72 Try.underlying27 hi hz0 hz1 hz2 rfl (by decide) _ _ _ rfl oN _ (some ⟨gs, 0, none⟩) 1 1 m.cells rfl rs (ms_one m) ?c2 ?c3 ?c4 ?_; (case c2 => unfold maxLen; omega); (case c3 => omega); (case c4 => exact hB3); intro v5 w5 ho5 hg5 _; refine hK.out _ _ ⟨(kF5 hg5).cell 7, (kM5 hg5).cell 0, (kM5 hg5).cell 1, (kM5 hg5).cell 2, (kM5 hg5).cell 3, (kM5 hg5).cell 4⟩ (fun hHeld => ?_); (clear hK K; (try simp only [Act.put, List.setIfInBounds_toArray, List.set_cons_zero, List.set_cons_succ])))
    obtain ⟨A5, c5, rfl, _, _⟩ := own_form ho5
    have q7 := (kF5 hg5).cell 7
    have z7 := (kF5 hg5).frozen 7
    have ho6 : w5.ownsRow base 50 5 (.slice A5 (f.nt ++ [m]).length c5) (f.nt ++ [m]).length (mssV (f.nt ++ [m])) := by
      rw [mssV_append, List.length_append]
      simpa [mssV] using ho5
    have hO := h3.own.net hg5 ho6 (fun y hy => by
      rcases List.mem_append.1 hy with hy | hy
      · exact (h3.own.nte y hy).kept_ty h3.own.nt (by decide) (by decide) (by decide) (by decide) hg5
      · rw [List.mem_singleton.1 hy]
        exact hm3.kept_ty h3.own.nt (by decide) (by decide) (by decide) (by decide) hg5)
    have hO2 := hO.box (j := 7) (kF5 hg5) (.slice A5 (f.nt.length + 1) c5)
    have kZ := (kF5 hg5).set_ 7 (.slice A5 (f.nt.length + 1) c5)
    simp only [List.setIfInBounds_toArray, List.set_cons_zero, List.set_cons_succ] at kZ
    have hBZ := (hBB.grown hg5 hB3 (fun x hx => (oN.lt x hx).1)).setCell (p := ⟨g, 7, none⟩) hlo (.slice A5 (f.nt.length + 1) c5)
    have kf9 := (kf3.trans (KF.row oN (by decide) hg5)).trans (KF.box (j := 7) (u := .slice A5 (f.nt.length + 1) c5))
    clear kF5 kM5 kM3 hg5 ho5 oN
    (refine wpAnyL_ready (rs := [8]) (by kernel_rfl) (by simp) ?_; refine List.forall_mem_cons.2 ⟨stepLate (o := { dst := some 18, op := Op.nilCheck (Operand.tmp 10), type := 0, pos := "farm.go:96", after := #[{ on := 0, ground := Ground.data }, { on := 0, ground := Ground.phase }, { on := 1, ground := Ground.phase }, { on := 2, ground := Ground.phase }, { on := 3, ground := Ground.phase }, { on := 4, ground := Ground.phase }, { on := 5, ground := Ground.phase }, { on := 6, ground := Ground.phase }, { on := 7, ground := Ground.phase }], guard := none }) rfl (by rfl) (fun K hK => ?_), fun _ h => by cases h⟩; go_simp; refine hK.out _ _ ?_; (clear hK K; (try simp only [Act.put, List.setIfInBounds_toArray, List.set_cons_zero, List.set_cons_succ])))
    (refine wpAnyL_ready (rs := [9]) (by kernel_rfl) (by simp) ?_; refine List.forall_mem_cons.2 ⟨stepLate (o := { dst := some 19, op := Op.fieldAddr 29 (Operand.tmp 18) 7, type := 0, pos := "farm.go:96", after := #[{ on := 8, ground := Ground.data }, { on := 0, ground := Ground.phase }, { on := 1, ground := Ground.phase }, { on := 2, ground := Ground.phase }, { on := 3, ground := Ground.phase }, { on := 4, ground := Ground.phase }, { on := 5, ground := Ground.phase }, { on := 6, ground := Ground.phase }, { on := 7, ground := Ground.phase }], guard := none }) rfl (by rfl) (fun K hK => ?_), fun _ h => by cases h⟩; go_simp; refine hK.out _ _ ?_; (clear hK K; (try simp only [Act.put, List.setIfInBounds_toArray, List.set_cons_zero, List.set_cons_succ])))
    (refine wpAnyL_ready (rs := [10]) (by kernel_rfl) (by simp) ?_; refine List.forall_mem_cons.2 ⟨stepLate (o := { dst := none, op := Op.store 27 (Operand.tmp 19) (Operand.tmp 17), type := 0, pos := "farm.go:96", after := #[{ on := 9, ground := Ground.data }, { on := 7, ground := Ground.data }, { on := 7, ground := Ground.chain }, { on := 0, ground := Ground.phase }, { on := 1, ground := Ground.phase }, { on := 2, ground := Ground.phase }, { on := 3, ground := Ground.phase }, { on := 4, ground := Ground.phase }, { on := 5, ground := Ground.phase }, { on := 6, ground := Ground.phase }, { on := 7, ground := Ground.phase }], guard := none }) rfl (by rfl) (fun K hK => ?_), fun _ h => by cases h⟩; go_simp; refine hK.out _ _ ?_; (clear hK K; (try simp only [Act.put, List.setIfInBounds_toArray, List.set_cons_zero, List.set_cons_succ])))
    refine wpAnyL_done (by kernel_rfl) ?_ _
    go_wp2
    first | go_end0 | refine bodyPost_ret (results_none rfl _ _ _) rfl ?_
    refine ⟨rfl, { f with nt := f.nt ++ [m], na := A5, nc := c5 }, ⟨by simpa using kZ, hO2, hlo⟩, ?_, hBZ, kf9⟩
    (try rw [hE])
    simp [FrM.er]
  · have hE : sendP f.er m.er = f.er := by unfold sendP; rw [if_neg (by simpa [FrM.er] using hl)]
    have hD : decide ((f.nt.length : Int) < 20) = false := decide_eq_false (by omega)
    clear hl
    go_wp2
    first | go_end0 | refine bodyPost_ret (results_none rfl _ _ _) rfl ?_
    exact ⟨rfl, f, h, by first | exact hE.symm | rfl, hB0, kf0⟩
end Go.Proofs.Ytkfmkemjoddinaa
