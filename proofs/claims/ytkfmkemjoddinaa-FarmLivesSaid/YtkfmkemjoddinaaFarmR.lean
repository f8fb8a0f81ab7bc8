/- farm.give: what it does. -/
import Derived.Test.YtkfmkemjoddinaaFmQ
import Derived.Test.YtkfmkemjoddinaaPlB
import Derived.Deep.QuietTactic
set_option linter.all false
namespace Go.Proofs.Ytkfmkemjoddinaa
open Go.RowKit
set_option maxRecDepth 100000

def StepIs (w : World) (base g : Nat) (r : Frm × Int) (e : Ending) (w' : World) : Prop := e = .returned (.int .i64 r.2) ∧ ∃ f' : FrM, FB w' base g f' ∧ f'.er = r.1 ∧ Below base w w' ∧ KF g w w'
theorem grs_put {l : List Gr} {k : Nat} {x : Gr} (a b : Int) (hx : l[k]? = some x) : ((grsV l).set (k * 2) (.int .i64 a)).set (k * 2 + 1) (.int .i64 b) = grsV (l.set k ⟨a, b⟩) := by
  induction l generalizing k with
  | nil => simp at hx
  | cons y r ih =>
    cases k with
    | zero => simp [grsV, Gr.cells]
    | succ k =>
      have := ih (k := k) (by simpa using hx)
      rw [show (k + 1) * 2 = k * 2 + 1 + 1 by omega]
      simp only [grsV, List.flatMap_cons, Gr.cells, List.set_cons_succ, List.cons_append, List.nil_append] at this ⊢
      rw [this]
theorem giveP_some {f : Frm} {w n : Int} (h : (readyRes f.pl f.ps.length f.dn).1.find? (fun n => decide ((f.gs.getD n.toNat .none_).until_ ≤ f.now)) = some n) :
    giveP f w = (sendP { f with gs := f.gs.set n.toNat ⟨w, f.now + 5⟩ } ⟨1, w, n, .nil⟩, 0) := by unfold giveP; rw [h]
theorem giveP_none {f : Frm} {w : Int} (h : (readyRes f.pl f.ps.length f.dn).1.find? (fun n => decide ((f.gs.getD n.toNat .none_).until_ ≤ f.now)) = none) : giveP f w = (f, 11) := by unfold giveP; rw [h]
set_option maxHeartbeats 20000000 in
theorem give_any (f : FrM) (wk : Int) (base g : Nat) (w : World) (h : FB w base g f) (hF : f.er.Fine) :
    Calls Try.prog 50 #[.pointer (some ⟨g, 0, none⟩), .int .i64 wk] w (StepIs w base g (giveP f.er wk)) := by
  unfold StepIs
  have n1 : f.ps.length ≤ 12 := by have := (ckPlan_zero hF.pl).2.1; simp only [FrM.er, List.length_map] at this; omega
  have n2 : f.pl.length ≤ 23 := (ckPlan_zero hF.pl).2.2.1
  have N3 : Hid (f.dn.length = f.pl.length) := hF.ld
  have N5 : Hid (f.gs.length = f.pl.length) := hF.lg
  have n3 : f.dn.length ≤ 23 := by rw [N3.out]; exact n2
  have n7 : f.nt.length ≤ 20 := by have := hF.ln; simp only [FrM.er, List.length_map] at this; omega
  have hrd := readyRes_ok hF.pl hF.ld
  have m0 : 0 ≤ f.now := hF.n0
  have m1 : f.now ≤ 65536 := hF.n1
  have HF := Lib.hid hF
  obtain ⟨R, hR⟩ : ∃ R, R = readyUpto f.pl f.dn f.pl.length := ⟨_, rfl⟩
  have HR0 : Hid (readyRes f.pl f.ps.length f.dn = (R, 0)) := by
    show _ = _
    have : readyRes f.er.pl f.er.ps.length f.er.dn = readyRes f.pl f.ps.length f.dn := by simp [FrM.er]
    rw [← this, hrd, hR]; rfl
  have hRl : R.length ≤ 23 := by have := readyUpto_len f.pl f.dn f.pl.length; rw [hR]; omega
  have HRM : Hid (∀ x ∈ R, ∃ i : Nat, x = i ∧ i < f.pl.length) := fun x hx => by
    rw [hR] at hx
    obtain ⟨i, h1, h2, _⟩ := readyUpto_mem.1 hx
    exact ⟨i, h1, h2⟩
  clear hR hrd hF
  have kF := h.blk
  have hat := h.own.at_
  have hlt := h.lt
  have hlo := h.lo
  go_enter Try.func50, Try.ntmps50
  go_upto_region 1 with (fail)
  have hS : Hid (∀ w', Below w.heap.size w w' → (w'.cell? ⟨g, 0, none⟩ = some (.slice f.pa f.ps.length f.pc) ∧ w'.cell? ⟨g, 1, none⟩ = some (.slice f.la f.pl.length f.lc) ∧ w'.cell? ⟨g, 3, none⟩ = some (.slice f.da f.dn.length f.dc))) :=
    fun w' h => ⟨(kF.all h).cell 0, (kF.all h).cell 1, (kF.all h).cell 3⟩
  have hb := (Below.refl w.heap.size w).drew
  refine wp_region_late (S := (fun w' => w'.cell? ⟨g, 0, none⟩ = some (.slice f.pa f.ps.length f.pc) ∧ w'.cell? ⟨g, 1, none⟩ = some (.slice f.la f.pl.length f.lc) ∧ w'.cell? ⟨g, 3, none⟩ = some (.slice f.da f.dn.length f.dc))) [] (by kernel_rfl) (hS.out _ hb) (fun hHeld => ?_)
  obtain ⟨wv, hwv⟩ : ∃ x, x = w.drew := ⟨_, rfl⟩
  rw [← hwv] at hb hHeld ⊢
  clear hwv
  (refine wpAnyLT_take (i := 0) (oi := { dst := some 10, op := Op.move (Operand.tmp 0), type := 69, pos := "farm.go:102", after := #[], guard := none }) (v := ?_) rfl (by kernel_rfl) (by kernel_rfl) (by kernel_rfl) (fun _ _ _ h => h) (Or.inl ⟨by rfl, ?_⟩) (by assumption) (by kernel_rfl) (by rfl) (by kernel_rfl) ?_; rotate_left; (focus (intro w hSw; (try dsimp only at hSw); go_simp; (try with_reducible rfl))); (try simp only [Act.put, List.setIfInBounds_toArray, List.set_cons_zero, List.set_cons_succ]))
  (refine wpAnyLT_take (i := 1) (oi := { dst := some 11, op := Op.nilCheck (Operand.tmp 10), type := 0, pos := "farm.go:102", after := #[{ on := 0, ground := Ground.data }], guard := none }) (v := ?_) rfl (by kernel_rfl) (by kernel_rfl) (by kernel_rfl) (fun _ _ _ h => h) (Or.inl ⟨by rfl, ?_⟩) (by assumption) (by kernel_rfl) (by rfl) (by kernel_rfl) ?_; rotate_left; (focus (intro w hSw; (try dsimp only at hSw); go_simp; (try with_reducible rfl))); (try simp only [Act.put, List.setIfInBounds_toArray, List.set_cons_zero, List.set_cons_succ]))
  (refine wpAnyLT_take (i := 2) (oi := { dst := some 12, op := Op.fieldAddr 29 (Operand.tmp 11) 1, type := 0, pos := "farm.go:102", after := #[{ on := 1, ground := Ground.data }], guard := none }) (v := ?_) rfl (by kernel_rfl) (by kernel_rfl) (by kernel_rfl) (fun _ _ _ h => h) (Or.inl ⟨by rfl, ?_⟩) (by assumption) (by kernel_rfl) (by rfl) (by kernel_rfl) ?_; rotate_left; (focus (intro w hSw; (try dsimp only at hSw); go_simp; (try with_reducible rfl))); (try simp only [Act.put, List.setIfInBounds_toArray, List.set_cons_zero, List.set_cons_succ]))
  (refine wpAnyLT_take (i := 3) (oi := { dst := some 13, op := Op.load 23 (Operand.tmp 12), type := 23, pos := "farm.go:102", after := #[{ on := 2, ground := Ground.data }], guard := none }) (v := ?_) rfl (by kernel_rfl) (by kernel_rfl) (by kernel_rfl) (fun _ _ _ h => h) (Or.inl ⟨by rfl, ?_⟩) (by assumption) (by kernel_rfl) (by rfl) (by kernel_rfl) ?_; rotate_left; (focus (intro w hSw; (try dsimp only at hSw); go_simp; (try with_reducible rfl))); (try simp only [Act.put, List.setIfInBounds_toArray, List.set_cons_zero, List.set_cons_succ]))
  (refine wpAnyLT_take (i := 4) (oi := { dst := some 14, op := Op.move (Operand.tmp 0), type := 69, pos := "farm.go:102", after := #[], guard := none }) (v := ?_) rfl (by kernel_rfl) (by kernel_rfl) (by kernel_rfl) (fun _ _ _ h => h) (Or.inl ⟨by rfl, ?_⟩) (by assumption) (by kernel_rfl) (by rfl) (by kernel_rfl) ?_; rotate_left; (focus (intro w hSw; (try dsimp only at hSw); go_simp; (try with_reducible rfl))); (try simp only [Act.put, List.setIfInBounds_toArray, List.set_cons_zero, List.set_cons_succ]))
  (refine wpAnyLT_take (i := 5) (oi := { dst := some 15, op := Op.nilCheck (Operand.tmp 14), type := 0, pos := "farm.go:102", after := #[{ on := 4, ground := Ground.data }], guard := none }) (v := ?_) rfl (by kernel_rfl) (by kernel_rfl) (by kernel_rfl) (fun _ _ _ h => h) (Or.inl ⟨by rfl, ?_⟩) (by assumption) (by kernel_rfl) (by rfl) (by kernel_rfl) ?_; rotate_left; (focus (intro w hSw; (try dsimp only at hSw); go_simp; (try with_reducible rfl))); (try simp only [Act.put, List.setIfInBounds_toArray, List.set_cons_zero, List.set_cons_succ]))
  (refine wpAnyLT_take (i := 6) (oi := { dst := some 16, op := Op.fieldAddr 29 (Operand.tmp 15) 0, type := 0, pos := "farm.go:102", after := #[{ on := 5, ground := Ground.data }], guard := none }) (v := ?_) rfl (by kernel_rfl) (by kernel_rfl) (by kernel_rfl) (fun _ _ _ h => h) (Or.inl ⟨by rfl, ?_⟩) (by assumption) (by kernel_rfl) (by rfl) (by kernel_rfl) ?_; rotate_left; (focus (intro w hSw; (try dsimp only at hSw); go_simp; (try with_reducible rfl))); (try simp only [Act.put, List.setIfInBounds_toArray, List.set_cons_zero, List.set_cons_succ]))
  (refine wpAnyLT_take (i := 7) (oi := { dst := some 17, op := Op.load 22 (Operand.tmp 16), type := 22, pos := "farm.go:102", after := #[{ on := 6, ground := Ground.data }], guard := none }) (v := ?_) rfl (by kernel_rfl) (by kernel_rfl) (by kernel_rfl) (fun _ _ _ h => h) (Or.inl ⟨by rfl, ?_⟩) (by assumption) (by kernel_rfl) (by rfl) (by kernel_rfl) ?_; rotate_left; (focus (intro w hSw; (try dsimp only at hSw); go_simp; (try with_reducible rfl))); (try simp only [Act.put, List.setIfInBounds_toArray, List.set_cons_zero, List.set_cons_succ]))
  (refine wpAnyLT_take (i := 8) (oi := { dst := some 18, op := Op.call { callee := Callee.builtin Builtin.len, args := #[Operand.tmp 17], argTypes := #[22] }, type := 3, pos := "farm.go:102", after := #[{ on := 7, ground := Ground.data }], guard := none }) (v := ?_) rfl (by kernel_rfl) (by kernel_rfl) (by kernel_rfl) (fun _ _ _ h => h) (Or.inl ⟨by rfl, ?_⟩) (by assumption) (by kernel_rfl) (by rfl) (by kernel_rfl) ?_; rotate_left; (focus (intro w hSw; (try dsimp only at hSw); go_simp; (try with_reducible rfl))); (try simp only [Act.put, List.setIfInBounds_toArray, List.set_cons_zero, List.set_cons_succ]))
  (refine wpAnyLT_take (i := 9) (oi := { dst := some 19, op := Op.move (Operand.tmp 0), type := 69, pos := "farm.go:102", after := #[], guard := none }) (v := ?_) rfl (by kernel_rfl) (by kernel_rfl) (by kernel_rfl) (fun _ _ _ h => h) (Or.inl ⟨by rfl, ?_⟩) (by assumption) (by kernel_rfl) (by rfl) (by kernel_rfl) ?_; rotate_left; (focus (intro w hSw; (try dsimp only at hSw); go_simp; (try with_reducible rfl))); (try simp only [Act.put, List.setIfInBounds_toArray, List.set_cons_zero, List.set_cons_succ]))
  (refine wpAnyLT_take (i := 10) (oi := { dst := some 20, op := Op.nilCheck (Operand.tmp 19), type := 0, pos := "farm.go:102", after := #[{ on := 9, ground := Ground.data }], guard := none }) (v := ?_) rfl (by kernel_rfl) (by kernel_rfl) (by kernel_rfl) (fun _ _ _ h => h) (Or.inl ⟨by rfl, ?_⟩) (by assumption) (by kernel_rfl) (by rfl) (by kernel_rfl) ?_; rotate_left; (focus (intro w hSw; (try dsimp only at hSw); go_simp; (try with_reducible rfl))); (try simp only [Act.put, List.setIfInBounds_toArray, List.set_cons_zero, List.set_cons_succ]))
  (refine wpAnyLT_take (i := 11) (oi := { dst := some 21, op := Op.fieldAddr 29 (Operand.tmp 20) 3, type := 0, pos := "farm.go:102", after := #[{ on := 10, ground := Ground.data }], guard := none }) (v := ?_) rfl (by kernel_rfl) (by kernel_rfl) (by kernel_rfl) (fun _ _ _ h => h) (Or.inl ⟨by rfl, ?_⟩) (by assumption) (by kernel_rfl) (by rfl) (by kernel_rfl) ?_; rotate_left; (focus (intro w hSw; (try dsimp only at hSw); go_simp; (try with_reducible rfl))); (try simp only [Act.put, List.setIfInBounds_toArray, List.set_cons_zero, List.set_cons_succ]))
  (refine wpAnyLT_take (i := 12) (oi := { dst := some 22, op := Op.load 24 (Operand.tmp 21), type := 24, pos := "farm.go:102", after := #[{ on := 11, ground := Ground.data }], guard := none }) (v := ?_) rfl (by kernel_rfl) (by kernel_rfl) (by kernel_rfl) (fun _ _ _ h => h) (Or.inl ⟨by rfl, ?_⟩) (by assumption) (by kernel_rfl) (by rfl) (by kernel_rfl) ?_; rotate_left; (focus (intro w hSw; (try dsimp only at hSw); go_simp; (try with_reducible rfl))); (try simp only [Act.put, List.setIfInBounds_toArray, List.set_cons_zero, List.set_cons_succ]))
  have RD := Lib.hid (ready_any f.la f.da f.lc f.dc f.pl f.ps.length f.dn wv (hat.all hb).pl (hat.all hb).dn (by omega) (by omega))
  (refine wpAnyL_ready (rs := [13]) (by kernel_rfl) (by simp) ?_; refine List.forall_mem_cons.2 ⟨stepL (o := { dst := some 23, op := Op.call { callee := Callee.value (Operand.func 67), args := #[Operand.tmp 13, Operand.tmp 18, Operand.tmp 22], argTypes := #[23, 3, 24] }, type := 123, pos := "farm.go:102", after := #[{ on := 3, ground := Ground.data }, { on := 8, ground := Ground.data }, { on := 12, ground := Ground.data }], guard := none }) rfl (fun K hK => ?_), fun _ h => by cases h⟩; (try go_simp); (go_at_call 67; refine RD.out.mono ?_; rintro e w1 ⟨v1, rfl, hrow, hb1'⟩; rw [HR0.out] at hrow ⊢; dsimp only at hrow ⊢; have hb1 := hb.trans (hb1'.mono hb.size)); go_wp2_with fail; refine hK.out _ _ (hS.out _ hb1) (fun hHeld => ?_); (clear hK K; (try simp only [Act.put, List.setIfInBounds_toArray, List.set_cons_zero, List.set_cons_succ])))
  (refine wpAnyLT_take (i := 14) (oi := { dst := some 9, op := Op.move (Operand.tmp 23), type := 123, pos := "farm.go:102", after := #[{ on := 13, ground := Ground.data }], guard := none }) (v := ?_) rfl (by kernel_rfl) (by kernel_rfl) (by kernel_rfl) (fun _ _ _ h => h) (Or.inl ⟨by rfl, ?_⟩) (by assumption) (by kernel_rfl) (by rfl) (by kernel_rfl) ?_; rotate_left; (focus (intro w hSw; (try dsimp only at hSw); go_simp; (try with_reducible rfl))); (try simp only [Act.put, List.setIfInBounds_toArray, List.set_cons_zero, List.set_cons_succ]))
  (refine wpAnyLT_take (i := 15) (oi := { dst := some 24, op := Op.extract (Operand.tmp 9) 0, type := 26, pos := "farm.go:102", after := #[{ on := 14, ground := Ground.data }], guard := none }) (v := ?_) rfl (by kernel_rfl) (by kernel_rfl) (by kernel_rfl) (fun _ _ _ h => h) (Or.inl ⟨by rfl, ?_⟩) (by assumption) (by kernel_rfl) (by rfl) (by kernel_rfl) ?_; rotate_left; (focus (intro w hSw; (try dsimp only at hSw); go_simp; (try with_reducible rfl))); (try simp only [Act.put, List.setIfInBounds_toArray, List.set_cons_zero, List.set_cons_succ]))
  (refine wpAnyLT_take (i := 16) (oi := { dst := some 25, op := Op.extract (Operand.tmp 9) 1, type := 32, pos := "farm.go:102", after := #[{ on := 14, ground := Ground.data }, { on := 17, ground := Ground.gcOnly Departure.lateStores }], guard := none }) (v := ?_) rfl (by kernel_rfl) (by kernel_rfl) (by kernel_rfl) (fun _ _ _ h => h) (Or.inl ⟨by rfl, ?_⟩) (by assumption) (by kernel_rfl) (by rfl) (by kernel_rfl) ?_; rotate_left; (focus (intro w hSw; (try dsimp only at hSw); go_simp; (try with_reducible rfl))); (try simp only [Act.put, List.setIfInBounds_toArray, List.set_cons_zero, List.set_cons_succ]))
  (refine wpAnyLT_take (i := 17) (oi := { dst := some 5, op := Op.assign (Operand.tmp 24), type := 26, pos := "farm.go:102", after := #[{ on := 15, ground := Ground.data }, { on := 13, ground := Ground.chain }, { on := 0, ground := Ground.phase }, { on := 1, ground := Ground.phase }, { on := 2, ground := Ground.phase }, { on := 3, ground := Ground.phase }, { on := 4, ground := Ground.phase }, { on := 5, ground := Ground.phase }, { on := 6, ground := Ground.phase }, { on := 7, ground := Ground.phase }, { on := 8, ground := Ground.phase }, { on := 9, ground := Ground.phase }, { on := 10, ground := Ground.phase }, { on := 11, ground := Ground.phase }, { on := 12, ground := Ground.phase }, { on := 13, ground := Ground.phase }, { on := 14, ground := Ground.phase }, { on := 15, ground := Ground.phase }, { on := 16, ground := Ground.textOnly Departure.lateStores }], guard := none }) (v := ?_) rfl (by kernel_rfl) (by kernel_rfl) (by kernel_rfl) (fun _ _ _ h => h) (Or.inl ⟨by rfl, ?_⟩) (by assumption) (by kernel_rfl) (by rfl) (by kernel_rfl) ?_; rotate_left; (focus (intro w hSw; (try dsimp only at hSw); go_simp; (try with_reducible rfl))); (try simp only [Act.put, List.setIfInBounds_toArray, List.set_cons_zero, List.set_cons_succ]))
  (refine wpAnyLT_take (i := 18) (oi := { dst := some 6, op := Op.assign (Operand.tmp 25), type := 32, pos := "farm.go:102", after := #[{ on := 16, ground := Ground.data }, { on := 17, ground := Ground.chain }, { on := 0, ground := Ground.phase }, { on := 1, ground := Ground.phase }, { on := 2, ground := Ground.phase }, { on := 3, ground := Ground.phase }, { on := 4, ground := Ground.phase }, { on := 5, ground := Ground.phase }, { on := 6, ground := Ground.phase }, { on := 7, ground := Ground.phase }, { on := 8, ground := Ground.phase }, { on := 9, ground := Ground.phase }, { on := 10, ground := Ground.phase }, { on := 11, ground := Ground.phase }, { on := 12, ground := Ground.phase }, { on := 13, ground := Ground.phase }, { on := 14, ground := Ground.phase }, { on := 15, ground := Ground.phase }, { on := 16, ground := Ground.phase }, { on := 17, ground := Ground.phase }], guard := none }) (v := ?_) rfl (by kernel_rfl) (by kernel_rfl) (by kernel_rfl) (fun _ _ _ h => h) (Or.inl ⟨by rfl, ?_⟩) (by assumption) (by kernel_rfl) (by rfl) (by kernel_rfl) ?_; rotate_left; (focus (intro w hSw; (try dsimp only at hSw); go_simp; (try with_reducible rfl))); (try simp only [Act.put, List.setIfInBounds_toArray, List.set_cons_zero, List.set_cons_succ]))
  refine wpAnyL_done (by kernel_rfl) ?_ _
  obtain ⟨A1, c1, rfl, hc1, hrow⟩ := hrow
  replace h := h.all hb1
  have hB := (Below.refl base w).trans (hb1.mono hlt)
  have kf1 : KF g w w1 := KF.below hb1
  have hP : Hid ((readyRes f.er.pl f.er.ps.length f.er.dn).1 = R) := by
    show _ = _
    have : readyRes f.er.pl f.er.ps.length f.er.dn = readyRes f.pl f.ps.length f.dn := by simp [FrM.er]
    rw [this, HR0.out]
  clear RD hHeld hS hb hb1 hb1' kF hat hlt
  go_wp2
  go_loopw [28] (fun i wr => ∃ k : Nat, k ≤ R.length ∧ i = .int .i64 k ∧ Hid (R.find? (fun n => decide ((f.gs.getD n.toNat .none_).until_ ≤ f.now)) = (R.drop k).find? (fun n => decide ((f.gs.getD n.toNat .none_).until_ ≤ f.now))) ∧ Below w1.heap.size w1 wr) (fun i _ => R.length - (intOf i).toNat)
  case atStart => exact ⟨0, Nat.zero_le _, rfl, Lib.hid rfl, Below.refl _ _⟩
  case round =>
    obtain ⟨k, hk, rfl, hf, hb⟩ := hrel
    by_cases hlt : k < R.length
    · obtain ⟨b, off, u, rfl, bl, hu, hc⟩ := (hrow.below hb).at_ hlt
      obtain ⟨x, hx⟩ : ∃ x, R[k]? = some x := ⟨_, List.getElem?_eq_getElem hlt⟩
      rw [intsV, List.getElem?_map, hx] at hu
      injection hu with hu
      subst hu
      replace hc : wr.cell? ⟨b, off + k, none⟩ = some (.int .i64 x) := hc
      obtain ⟨i, rfl, hi⟩ := HRM.out x (List.mem_of_getElem? hx)
      have hd : R.drop k = (i : Int) :: R.drop (k + 1) := by
        obtain ⟨hk', hv⟩ := List.getElem?_eq_some_iff.1 hx
        rw [List.drop_eq_getElem_cons hk', hv]
      obtain ⟨gr, hgr⟩ : ∃ x, f.gs[i]? = some x := ⟨_, List.getElem?_eq_getElem (by rw [N5.out]; exact hi)⟩
      have hgd : f.gs.getD (i : Int).toNat .none_ = gr := by rw [Int.toNat_natCast]; exact getD_of _ hgr
      have h3 := h.all hb
      have HB3 := Lib.hid (hB.trans (hb.mono h.lt))
      have kf3 := kf1.trans (KF.below hb)
      have hR3 := Reads.of_own h3.own.gs
      obtain ⟨bg, og, ega, blg, g0, g1⟩ := gr_get hR3 hgr
      obtain ⟨gG, capG, hvG, hgG0, hgG1⟩ := h3.own.gs.form (by rw [N5.out]; omega)
      injection hvG with hvG _ hcG
      subst hcG
      rw [hvG] at ega
      injection ega with ega
      injection ega with e1 e2
      subst e1 e2
      simp only [Nat.zero_add] at g0 g1
      have kF := h3.blk
      rw [hvG] at kF
      have q2 := kF.cell 2
      have q5 := kF.cell 5
      have t1 : i < f.gs.length := by rw [N5.out]; exact hi
      have t2 : (i : Int) < (f.gs.length : Int) := by omega
      have HD := Lib.hid hd
      have HGD := Lib.hid hgd
      have HGR := Lib.hid hgr
      have HVG := Lib.hid hvG
      clear hd hgd hgr hvG hx
      go_upto_region 5 with (fail)
      by_cases hun : gr.until_ ≤ f.now
      · have hD : decide (f.now < gr.until_) = false := decide_eq_false (by omega)
        have hFI : Hid (R.find? (fun n => decide ((f.gs.getD n.toNat .none_).until_ ≤ f.now)) = some (i : Int)) := by
          show _ = _
          rw [hf.out, HD.out, List.find?_cons, HGD.out, decide_eq_true hun]
        have HE := Lib.hid (giveP_some (w := wk) (by rw [hP.out]; exact hFI.out))
        clear hun
        go_quiet (fail)
        have hdn : Below wr.heap.size wr (wr.drewN nq) := below_drewN (Below.refl _ _) nq
        obtain ⟨Wr, hWr⟩ : ∃ x, x = wr.drewN nq := ⟨_, rfl⟩
        rw [← hWr] at hdn ⊢
        clear hWr q2 q5 g0 g1
        have kF4 : Blk Wr g 29 _ := kF.all hdn
        have kf4 := kf3.trans (KF.below hdn)
        have hS : Hid (∀ w', Below Wr.heap.size Wr w' → (w'.cell? ⟨g, 5, none⟩ = some (.slice (some ⟨gG, 0, none⟩) f.gs.length f.gc) ∧ w'.cell? ⟨g, 2, none⟩ = some (.int .i64 f.now))) :=
          fun w' h => ⟨(kF4.all h).cell 5, (kF4.all h).cell 2⟩
        have hbd := (Below.refl Wr.heap.size Wr).drew
        have hbw : IntKind.i64.wrap (f.now + 5) = f.now + 5 := by rw [IntKind.wrap_i64]; omega
        go_upto_region 6 with (fail)
        refine wp_region_late (S := (fun w' => w'.cell? ⟨g, 5, none⟩ = some (.slice (some ⟨gG, 0, none⟩) f.gs.length f.gc) ∧ w'.cell? ⟨g, 2, none⟩ = some (.int .i64 f.now))) [13] (by kernel_rfl) (hS.out _ hbd) (fun hHeld => ?_)
        obtain ⟨wv, hwv⟩ : ∃ x, x = Wr.drew := ⟨_, rfl⟩
        rw [← hwv] at hbd hHeld ⊢
        clear hwv
        (refine wpAnyLT_take (i := 0) (oi := { dst := some 45, op := Op.move (Operand.tmp 0), type := 69, pos := "farm.go:107", after := #[], guard := none }) (v := ?_) rfl (by kernel_rfl) (by kernel_rfl) (by kernel_rfl) (fun _ _ _ h => h) (Or.inl ⟨by rfl, ?_⟩) (by assumption) (by kernel_rfl) (by rfl) (by kernel_rfl) ?_; rotate_left; (focus (intro w hSw; (try dsimp only at hSw); go_simp; (try with_reducible rfl))); (try simp only [Act.put, List.setIfInBounds_toArray, List.set_cons_zero, List.set_cons_succ]))
        (refine wpAnyLT_take (i := 1) (oi := { dst := some 46, op := Op.nilCheck (Operand.tmp 45), type := 0, pos := "farm.go:107", after := #[{ on := 0, ground := Ground.data }], guard := none }) (v := ?_) rfl (by kernel_rfl) (by kernel_rfl) (by kernel_rfl) (fun _ _ _ h => h) (Or.inl ⟨by rfl, ?_⟩) (by assumption) (by kernel_rfl) (by rfl) (by kernel_rfl) ?_; rotate_left; (focus (intro w hSw; (try dsimp only at hSw); go_simp; (try with_reducible rfl))); (try simp only [Act.put, List.setIfInBounds_toArray, List.set_cons_zero, List.set_cons_succ]))
        (refine wpAnyLT_take (i := 2) (oi := { dst := some 47, op := Op.fieldAddr 29 (Operand.tmp 46) 5, type := 0, pos := "farm.go:107", after := #[{ on := 1, ground := Ground.data }], guard := none }) (v := ?_) rfl (by kernel_rfl) (by kernel_rfl) (by kernel_rfl) (fun _ _ _ h => h) (Or.inl ⟨by rfl, ?_⟩) (by assumption) (by kernel_rfl) (by rfl) (by kernel_rfl) ?_; rotate_left; (focus (intro w hSw; (try dsimp only at hSw); go_simp; (try with_reducible rfl))); (try simp only [Act.put, List.setIfInBounds_toArray, List.set_cons_zero, List.set_cons_succ]))
        (refine wpAnyLT_take (i := 3) (oi := { dst := some 48, op := Op.load 25 (Operand.tmp 47), type := 25, pos := "farm.go:107", after := #[{ on := 2, ground := Ground.data }], guard := none }) (v := ?_) rfl (by kernel_rfl) (by kernel_rfl) (by kernel_rfl) (fun _ _ _ h => h) (Or.inl ⟨by rfl, ?_⟩) (by assumption) (by kernel_rfl) (by rfl) (by kernel_rfl) ?_; rotate_left; (focus (intro w hSw; (try dsimp only at hSw); go_simp; (try with_reducible rfl))); (try simp only [Act.put, List.setIfInBounds_toArray, List.set_cons_zero, List.set_cons_succ]))
        (refine wpAnyLT_take (i := 4) (oi := { dst := some 49, op := Op.move (Operand.tmp 8), type := 3, pos := "farm.go:107", after := #[], guard := none }) (v := ?_) rfl (by kernel_rfl) (by kernel_rfl) (by kernel_rfl) (fun _ _ _ h => h) (Or.inl ⟨by rfl, ?_⟩) (by assumption) (by kernel_rfl) (by rfl) (by kernel_rfl) ?_; rotate_left; (focus (intro w hSw; (try dsimp only at hSw); go_simp; (try with_reducible rfl))); (try simp only [Act.put, List.setIfInBounds_toArray, List.set_cons_zero, List.set_cons_succ]))
        (refine wpAnyLT_take (i := 5) (oi := { dst := some 50, op := Op.move (Operand.tmp 1), type := 3, pos := "farm.go:107", after := #[], guard := none }) (v := ?_) rfl (by kernel_rfl) (by kernel_rfl) (by kernel_rfl) (fun _ _ _ h => h) (Or.inl ⟨by rfl, ?_⟩) (by assumption) (by kernel_rfl) (by rfl) (by kernel_rfl) ?_; rotate_left; (focus (intro w hSw; (try dsimp only at hSw); go_simp; (try with_reducible rfl))); (try simp only [Act.put, List.setIfInBounds_toArray, List.set_cons_zero, List.set_cons_succ]))
        (refine wpAnyLT_take (i := 6) (oi := { dst := some 51, op := Op.move (Operand.tmp 0), type := 69, pos := "farm.go:107", after := #[], guard := none }) (v := ?_) rfl (by kernel_rfl) (by kernel_rfl) (by kernel_rfl) (fun _ _ _ h => h) (Or.inl ⟨by rfl, ?_⟩) (by assumption) (by kernel_rfl) (by rfl) (by kernel_rfl) ?_; rotate_left; (focus (intro w hSw; (try dsimp only at hSw); go_simp; (try with_reducible rfl))); (try simp only [Act.put, List.setIfInBounds_toArray, List.set_cons_zero, List.set_cons_succ]))
        (refine wpAnyLT_take (i := 7) (oi := { dst := some 52, op := Op.nilCheck (Operand.tmp 51), type := 0, pos := "farm.go:107", after := #[{ on := 6, ground := Ground.data }], guard := none }) (v := ?_) rfl (by kernel_rfl) (by kernel_rfl) (by kernel_rfl) (fun _ _ _ h => h) (Or.inl ⟨by rfl, ?_⟩) (by assumption) (by kernel_rfl) (by rfl) (by kernel_rfl) ?_; rotate_left; (focus (intro w hSw; (try dsimp only at hSw); go_simp; (try with_reducible rfl))); (try simp only [Act.put, List.setIfInBounds_toArray, List.set_cons_zero, List.set_cons_succ]))
        (refine wpAnyLT_take (i := 8) (oi := { dst := some 53, op := Op.fieldAddr 29 (Operand.tmp 52) 2, type := 0, pos := "farm.go:107", after := #[{ on := 7, ground := Ground.data }], guard := none }) (v := ?_) rfl (by kernel_rfl) (by kernel_rfl) (by kernel_rfl) (fun _ _ _ h => h) (Or.inl ⟨by rfl, ?_⟩) (by assumption) (by kernel_rfl) (by rfl) (by kernel_rfl) ?_; rotate_left; (focus (intro w hSw; (try dsimp only at hSw); go_simp; (try with_reducible rfl))); (try simp only [Act.put, List.setIfInBounds_toArray, List.set_cons_zero, List.set_cons_succ]))
        (refine wpAnyLT_take (i := 9) (oi := { dst := some 54, op := Op.load 3 (Operand.tmp 53), type := 3, pos := "farm.go:107", after := #[{ on := 8, ground := Ground.data }], guard := none }) (v := ?_) rfl (by kernel_rfl) (by kernel_rfl) (by kernel_rfl) (fun _ _ _ h => h) (Or.inl ⟨by rfl, ?_⟩) (by assumption) (by kernel_rfl) (by rfl) (by kernel_rfl) ?_; rotate_left; (focus (intro w hSw; (try dsimp only at hSw); go_simp; (try with_reducible rfl))); (try simp only [Act.put, List.setIfInBounds_toArray, List.set_cons_zero, List.set_cons_succ]))
        (refine wpAnyLT_take (i := 10) (oi := { dst := some 55, op := Op.binOp BinOp.add 3 (Operand.tmp 54) (Operand.const (Value.int IntKind.i64 5)) 3, type := 3, pos := "farm.go:107", after := #[{ on := 9, ground := Ground.data }], guard := none }) (v := ?_) rfl (by kernel_rfl) (by kernel_rfl) (by kernel_rfl) (fun _ _ _ h => h) (Or.inl ⟨by rfl, ?_⟩) (by assumption) (by kernel_rfl) (by rfl) (by kernel_rfl) ?_; rotate_left; (focus (intro w hSw; (try dsimp only at hSw); go_simp; (try with_reducible rfl))); (try simp only [Act.put, List.setIfInBounds_toArray, List.set_cons_zero, List.set_cons_succ]))
        (refine wpAnyLT_take (i := 11) (oi := { dst := some 56, op := Op.build 76 #[(0, Operand.tmp 50), (1, Operand.tmp 55)], type := 76, pos := "farm.go:107", after := #[{ on := 5, ground := Ground.data }, { on := 10, ground := Ground.data }], guard := none }) (v := ?_) rfl (by kernel_rfl) (by kernel_rfl) (by kernel_rfl) (fun _ _ _ h => h) (Or.inl ⟨by rfl, ?_⟩) (by assumption) (by kernel_rfl) (by rfl) (by kernel_rfl) ?_; rotate_left; (focus (intro w hSw; (try dsimp only at hSw); go_simp; (try with_reducible rfl))); (try simp only [Act.put, List.setIfInBounds_toArray, List.set_cons_zero, List.set_cons_succ]))
        (refine wpAnyLT_take (i := 12) (oi := { dst := some 57, op := Op.indexAddr 25 (Operand.tmp 48) (Operand.tmp 49), type := 0, pos := "farm.go:107", after := #[{ on := 3, ground := Ground.data }, { on := 4, ground := Ground.data }, { on := 0, ground := Ground.phase }, { on := 1, ground := Ground.phase }, { on := 2, ground := Ground.phase }, { on := 3, ground := Ground.phase }, { on := 4, ground := Ground.phase }, { on := 5, ground := Ground.phase }, { on := 6, ground := Ground.phase }, { on := 7, ground := Ground.phase }, { on := 8, ground := Ground.phase }, { on := 9, ground := Ground.phase }, { on := 10, ground := Ground.phase }, { on := 11, ground := Ground.phase }], guard := none }) (v := ?_) rfl (by kernel_rfl) (by kernel_rfl) (by kernel_rfl) (fun _ _ _ h => h) (Or.inl ⟨by rfl, ?_⟩) (by assumption) (by kernel_rfl) (by rfl) (by kernel_rfl) ?_; rotate_left; (focus (intro w hSw; (try dsimp only at hSw); go_simp; (try with_reducible rfl))); (try simp only [Act.put, List.setIfInBounds_toArray, List.set_cons_zero, List.set_cons_succ]))
        have h4 := (h3.all hdn).all hbd
        have kf5 := kf4.trans (KF.below hbd)
        have HB4 := Lib.hid ((HB3.out.trans (hdn.mono h3.lt)).trans (hbd.mono (h3.all hdn).lt))
        have oG := h4.own.gs
        rw [HVG.out] at oG
        have i0 := own_isSome oG (j := i * 2) (by omega)
        have i1 := own_isSome oG (j := i * 2 + 1) (by omega)
        obtain ⟨u0, i0⟩ := Option.isSome_iff_exists.1 i0
        obtain ⟨u1, i1⟩ := Option.isSome_iff_exists.1 i1
        have z0 := oG.frozenAt (i * 2)
        have z1 := oG.frozenAt (i * 2 + 1)
        have s1 := oG.stored (i * 2) (.int .i64 wk)
        have s2 := s1.1.stored (i * 2 + 1) (.int .i64 (f.now + 5))
        have hr9 := s2.1
        rw [grs_put _ _ HGR.out] at hr9
        have hlen : (f.gs.set i ⟨wk, f.now + 5⟩).length = f.gs.length := List.length_set
        have hO9 := h4.own.grants (gs := f.gs.set i ⟨wk, f.now + 5⟩) hlen (by rw [HVG.out]; exact s1.2.trans s2.2) (by rw [HVG.out]; exact hr9)
        obtain ⟨cur, kG⟩ := own_cur' oG
        have hgG : g ≠ gG := fun e => by subst e; exact kG.ne_ h4.blk (by decide) rfl
        have kF9 := (h4.blk.far (p := ⟨gG, i * 2, none⟩) hgG (.int .i64 wk)).far (p := ⟨gG, i * 2 + 1, none⟩) hgG (.int .i64 (f.now + 5))
        have hFB : FB ((wv.setCell ⟨gG, i * 2, none⟩ (.int .i64 wk)).setCell ⟨gG, i * 2 + 1, none⟩ (.int .i64 (f.now + 5))) base g { f with gs := f.gs.set i ⟨wk, f.now + 5⟩ } := ⟨by simpa only [hlen] using kF9, hO9, hlo⟩
        have HB9 := Lib.hid ((HB4.out.setCell (p := ⟨gG, i * 2, none⟩) hgG0 (.int .i64 wk)).setCell (p := ⟨gG, i * 2 + 1, none⟩) hgG0 (.int .i64 (f.now + 5)))
        have kf9 := (kf5.trans (KF.other (j := i * 2) (u := .int .i64 wk) kG (by decide))).trans (KF.other (j := i * 2 + 1) (u := .int .i64 (f.now + 5)) (kG.set_ (i * 2) (.int .i64 wk)) (by decide))
        clear s1 s2 hr9 hO9 kG kF kF4 oG h4 h3 hR3 hdn h HB3 kF9 hrow hlen hS hbd hHeld
        (refine wpAnyL_ready (rs := [13]) (by kernel_rfl) (by simp) ?_; refine List.forall_mem_cons.2 ⟨stepLate (o := { dst := none, op := Op.store 76 (Operand.tmp 57) (Operand.tmp 56), type := 0, pos := "farm.go:107", after := #[{ on := 12, ground := Ground.data }, { on := 11, ground := Ground.data }, { on := 0, ground := Ground.phase }, { on := 1, ground := Ground.phase }, { on := 2, ground := Ground.phase }, { on := 3, ground := Ground.phase }, { on := 4, ground := Ground.phase }, { on := 5, ground := Ground.phase }, { on := 6, ground := Ground.phase }, { on := 7, ground := Ground.phase }, { on := 8, ground := Ground.phase }, { on := 9, ground := Ground.phase }, { on := 10, ground := Ground.phase }, { on := 11, ground := Ground.phase }], guard := none }) rfl (by rfl) (fun K hK => ?_), fun _ h => by cases h⟩; go_simp; refine hK.out _ _ ?_; (clear hK K; (try simp only [Act.put, List.setIfInBounds_toArray, List.set_cons_zero, List.set_cons_succ])))
        refine wpAnyL_done (by kernel_rfl) ?_ _
        obtain ⟨W9, hW9⟩ : ∃ x, x = (wv.setCell ⟨gG, i * 2, none⟩ (.int .i64 wk)).setCell ⟨gG, i * 2 + 1, none⟩ (.int .i64 (f.now + 5)) := ⟨_, rfl⟩
        rw [← hW9] at hFB HB9 kf9 ⊢
        clear hW9 i0 i1 z0 z1
        have hSD := Lib.hid (send_any { f with gs := f.gs.set i ⟨wk, f.now + 5⟩ } ⟨1, wk, i, ⟨[], [], none, 0, none, 0⟩⟩ base g W9 hFB (nil_own _ _) n7)
        go_wp2_with fail
        refine hSD.out.mono ?_
        rintro e w8 ⟨rfl, f8, h8, e8, hb8, kf8⟩
        have hB8 := HB9.out.trans hb8
        have hEr : f8.er = sendP { f.er with gs := f.er.gs.set (i : Int).toNat ⟨wk, f.er.now + 5⟩ } ⟨1, wk, i, .nil⟩ := e8
        clear hSD hFB HB9
        go_wp2
        go_ret
        exact ⟨ret_val (by rw [HE.out]; rfl), f8, h8, by rw [HE.out]; exact hEr, hB8, kf9.trans kf8⟩
      · have hD : decide (f.now < gr.until_) = true := decide_eq_true (by omega)
        have hFN : Hid (R.find? (fun n => decide ((f.gs.getD n.toNat .none_).until_ ≤ f.now)) = (R.drop (k + 1)).find? (fun n => decide ((f.gs.getD n.toNat .none_).until_ ≤ f.now))) := by
          show _ = _
          rw [hf.out, HD.out, List.find?_cons, HGD.out, decide_eq_false hun]
        clear hun
        go_quiet (fail)
        go_wp2
        go_roundw
        case rel => exact ⟨k + 1, by omega, by go_num, hFN, below_drewN hb nq⟩
        case measure => simp [intOf]; omega
    · obtain rfl : k = R.length := by omega
      have hFI : Hid (R.find? (fun n => decide ((f.gs.getD n.toNat .none_).until_ ≤ f.now)) = none) := by
        show _ = _
        rw [hf.out, List.drop_length]; rfl
      have HE := Lib.hid (giveP_none (w := wk) (by rw [hP.out]; exact hFI.out))
      have h3 := h.all hb
      have hB3 := hB.trans (hb.mono h.lt)
      go_wp2
      go_ret
      exact ⟨ret_val (by rw [HE.out]; rfl), f, h3, by rw [HE.out], hB3, kf1.trans (KF.below hb)⟩
end Go.Proofs.Ytkfmkemjoddinaa
