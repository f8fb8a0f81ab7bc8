/- ropewalklaw.PlanSame: it answers true. -/
import Derived.Test.YtkkjfjbkhafaiaaEvalW
import Derived.Test.YtkkjfjbkhafaiaaSameW
import Derived.Test.YtkkjfjbkhafaiaaPlanned
import Derived.Test.YtkkjfjbkhafaiaaMakeP
import Derived.Deep.RegionHeld3
import Derived.Deep.DeepCutAuto
namespace Go.Proofs.Ytkkjfjbkhafaiaa
open Go.RowKit

/-- What the law asks of what came of two plans and of all. -/
theorem same_cases {parts : List Prt} {picks other : List Int} {l m : List Nd} (hl : makeRes parts.length picks = (l, 0)) (hm : makeRes parts.length other = (m, 0)) :
    (∃ vs us, evalRes l parts = (vs, 0) ∧ evalRes m parts = (us, 0) ∧ allP parts = (joinL parts, 0) ∧ vs.length = l.length ∧ us.length = l.length ∧ vs[l.length - 1]? = some (joinL parts) ∧ us[l.length - 1]? = some (joinL parts)) ∨
    ((allP parts).2 = 0 ∧ ((evalRes l parts).2 = 0 ∨ (evalRes l parts).2 = 10) ∧ ((evalRes m parts).2 = 0 ∨ (evalRes m parts).2 = 10) ∧ ¬ ((evalRes l parts).2 = 0 ∧ (evalRes m parts).2 = 0)) ∨
    ((allP parts).2 ≠ 0 ∧ (evalRes l parts).2 ≠ 0 ∧ (evalRes m parts).2 ≠ 0) := by
  obtain ⟨h1, h2, _, t, _, e, rfl⟩ := make_form hl
  obtain ⟨_, _, _, u, _, e', rfl⟩ := make_form hm
  have ht : t.leaves = parts.length := by omega
  have hu : u.leaves = parts.length := by omega
  have hts : u.size = t.size := by have := t.size_eq; have := u.size_eq; omega
  rw [t.flat_len]
  rcases eval_plan ht (by omega) with ⟨a1, a2⟩ | ⟨vs, a1, a2, a3, a4⟩ | a1
  · rcases eval_plan hu (by omega) with ⟨b1, b2⟩ | ⟨us, b1, b2, b3, b4⟩ | b1
    · exact .inr (.inr ⟨a2, a1, b1⟩)
    · rw [b4] at a2; exact absurd rfl a2
    · exact .inr (.inr ⟨a2, a1, by rw [b1]; simp⟩)
  · rcases eval_plan hu (by omega) with ⟨b1, b2⟩ | ⟨us, b1, b2, b3, b4⟩ | b1
    · rw [a4] at b2; exact absurd rfl b2
    · exact .inl ⟨vs, us, a1, b1, a4, a2, by rw [b2, hts], a3, by rw [← hts]; exact b3⟩
    · exact .inr (.inl ⟨by rw [a4], .inl (by rw [a1]), .inr (by rw [b1]), fun hn => by rw [b1] at hn; simp at hn⟩)
  · rcases eval_plan hu (by omega) with ⟨b1, b2⟩ | ⟨us, b1, b2, b3, b4⟩ | b1
    · exact .inr (.inr ⟨b2, by rw [a1]; simp, b1⟩)
    · exact .inr (.inl ⟨by rw [b4], .inr (by rw [a1]), .inl (by rw [b1]), fun hn => by rw [a1] at hn; simp at hn⟩)
    · by_cases hg : (allP parts).2 = 0
      · exact .inr (.inl ⟨hg, .inr (by rw [a1]), .inr (by rw [b1]), fun hn => by rw [a1] at hn; simp at hn⟩)
      · exact .inr (.inr ⟨hg, by rw [a1]; simp, by rw [b1]; simp⟩)

set_option maxHeartbeats 1000000 in
theorem fits_any (n : Int) (w : World) : Calls Try.prog 19 #[.int .i64 n] w fun e w' => e = .returned (.bool (n != 0)) ∧ w = w' := by
  go_enter Try.func19, Try.ntmps19
  go_wp2
  go_ret
  exact ⟨rfl, rfl⟩

set_option maxRecDepth 100000 in
set_option maxHeartbeats 20000000 in
theorem planSame_any (A A1 A2 : Option Addr) (c c1 c2 : Nat) (ps : List PtM) (picks other : List Int) (w : World) (hp : PtsAt w w.heap.size A ps) (hpm : ps.length ≤ 9223372036854775807)
    (h1 : Reads w w.heap.size 1 A1 picks.length (intsV picks)) (hm1 : picks.length ≤ 9223372036854775807) (h2 : Reads w w.heap.size 1 A2 other.length (intsV other)) (hm2 : other.length ≤ 9223372036854775807) :
    Calls Try.prog 5 #[.slice A ps.length c, .slice A1 picks.length c1, .slice A2 other.length c2] w fun e w' => e = .returned (.bool true) ∧ Below w.heap.size w w' := by
  obtain ⟨l, x, HL⟩ : ∃ l x, Hid (makeRes ps.length picks = (l, x)) := ⟨_, _, rfl⟩
  obtain ⟨m, y, HM⟩ : ∃ m y, Hid (makeRes ps.length other = (m, y)) := ⟨_, _, rfl⟩
  go_enter Try.func5, Try.ntmps5
  go_wp2_with fail
  refine (make_any ps.length A1 c1 picks w h1 hm1).mono ?_
  rintro e w1 ⟨v, rfl, ⟨Al, cl, rfl, hcl, rl⟩, hb1⟩
  rw [HL.out] at rl ⊢
  dsimp only at rl ⊢
  have h2' := (h2.below hb1).more hb1.size
  go_wp2_with fail
  refine (make_any ps.length A2 c2 other w1 h2' hm2).mono ?_
  rintro e w2 ⟨v, rfl, ⟨Am, cm, rfl, hcm, rm⟩, hb2⟩
  rw [HM.out] at rm ⊢
  dsimp only at rm ⊢
  have rl2 := (rl.below hb2).more hb2.size
  have hB2 := hb1.trans (hb2.mono hb1.size)
  clear rl hb1 hb2 h1 h2 h2'
  go_wp2_with fail
  refine (planned_any w2).mono ?_
  rintro e w3 ⟨rfl, hb3⟩
  have rl3 := (rl2.below hb3).more hb3.size
  have rm3 := (rm.below hb3).more hb3.size
  have hB3 := hB2.trans (hb3.mono hB2.size)
  clear rl2 rm hB2 hb3
  by_cases hxy : x = 0 ∧ y = 0
  · obtain ⟨rfl, rfl⟩ := hxy
    have pl := make_plan HL.out
    have ll := make_len HL.out
    have lm := make_len HM.out
    have hform := make_form HL.out
    have h12 : ps.length ≤ 12 ∧ 1 ≤ ps.length := by have := hform.1; have := hform.2.1; omega
    obtain ⟨h12, h1n⟩ := h12
    have HS := Lib.hid (same_cases (parts := ps.map PtM.er) (picks := picks) (other := other) (l := l) (m := m) (by rw [List.length_map]; exact HL.out) (by rw [List.length_map]; exact HM.out))
    have l23 : l.length ≤ 23 := by omega
    have m23 : m.length ≤ 23 := by omega
    have t1 : ((l.length : Int) != 2 * (ps.length : Int) - 1) = false := by simp; omega
    have t2 : ((m.length : Int) != (l.length : Int)) = false := by simp; omega
    have lpos : 1 ≤ l.length := by omega
    have HCK := Lib.hid pl
    clear ll lm hform pl
    go_wp2_with fail
    refine (planCheck_any Al cl l ps.length w3 rl3 (by omega)).mono ?_
    rintro e w4 ⟨rfl, hb4⟩
    rw [HCK.out]
    have rl4 := (rl3.below hb4).more hb4.size
    have rm4 := (rm3.below hb4).more hb4.size
    have hB4 := hB3.trans (hb4.mono hB3.size)
    clear rl3 rm3 hB3 hb4
    go_wp2_with fail
    refine (eval_any Al A cl c l ps w4 rl4 (by omega) (hp.keep hB4 hB4.size) hpm).mono ?_
    rintro e w5 ⟨zx, xs, rfl, ex0, ex1, hb5⟩
    have rm5 := (rm4.below hb5).more hb5.size
    have hB5 := hB4.trans (hb5.mono hB4.size)
    go_wp2_with fail
    refine (eval_any Am A cm c m ps w5 rm5 (by omega) (hp.keep hB5 hB5.size) hpm).mono ?_
    rintro e w6 ⟨zy, ys, rfl, ey0, ey1, hb6⟩
    have hB6 := hB5.trans (hb6.mono hB5.size)
    have hb56 : Below w5.heap.size w5 w6 := hb6
    go_wp2_with fail
    refine (all_any A c ps w6 (hp.keep hB6 hB6.size) hpm).mono ?_
    rintro e w7 ⟨p, rfl, op, ep, hb7⟩
    have hB7 := hB6.trans (hb7.mono hB6.size)
    clear rl4 rm4 rm5
    rcases HS.out with ⟨vs, us, q1, q2, q3, q4, q5, q6, q7⟩ | ⟨q1, q2, q3, q4⟩ | ⟨q1, q2, q3⟩
    · rw [q1] at ex0 ex1 ⊢
      rw [q2] at ey0 ey1 ⊢
      rw [q3] at ep ⊢
      obtain ⟨rx, ox, mx⟩ := ex1 rfl
      obtain ⟨ry, oy, my⟩ := ey1 rfl
      dsimp only at mx my
      have rx7 := own_all (own_all rx hb6) hb7
      have ry7 := own_all ry hb7
      obtain ⟨Ax, cx, rfl, hcx, _⟩ := own_form rx7
      obtain ⟨Ay, cy, rfl, hcy, _⟩ := own_form ry7
      obtain ⟨N, hN⟩ : ∃ N, l.length = N + 1 := ⟨l.length - 1, by omega⟩
      obtain ⟨qx, hqx, eqx⟩ : ∃ q, xs[N]? = some q ∧ q.er = joinL (ps.map PtM.er) := by
        have h1 : (xs.map PtM.er)[N]? = some (joinL (ps.map PtM.er)) := by rw [mx]; rw [show N = l.length - 1 by omega]; exact q6
        rw [List.getElem?_map] at h1
        rcases h2 : xs[N]? with _ | q
        · rw [h2] at h1; cases h1
        · rw [h2] at h1
          exact ⟨q, rfl, by injection h1⟩
      obtain ⟨qy, hqy, eqy⟩ : ∃ q, ys[N]? = some q ∧ q.er = joinL (ps.map PtM.er) := by
        have h1 : (ys.map PtM.er)[N]? = some (joinL (ps.map PtM.er)) := by rw [my]; rw [show N = l.length - 1 by omega]; exact q7
        rw [List.getElem?_map] at h1
        rcases h2 : ys[N]? with _ | q
        · rw [h2] at h1; cases h1
        · rw [h2] at h1
          exact ⟨q, rfl, by injection h1⟩
      have lx : xs.length = N + 1 := by have := congrArg List.length mx; rw [List.length_map] at this; omega
      have ly : ys.length = N + 1 := by have := congrArg List.length my; rw [List.length_map] at this; omega
      have ax7 := (((ox qx (List.mem_of_getElem? hqx)).all hb6).all hb7).at_
      have ay7 := ((oy qy (List.mem_of_getElem? hqy)).all hb7).at_
      have SX : Hid (decide (qx.er = p.er) = true) := decide_eq_true (eqx.trans ep.symm)
      have SY : Hid (decide (qy.er = p.er) = true) := decide_eq_true (eqy.trans ep.symm)
      obtain ⟨b1, o1, rfl, bl1', ca0', ca1'⟩ := pt_get (Reads.of_own rx7) hqx
      obtain ⟨b2, o2, rfl, bl2', cb0', cb1'⟩ := pt_get (Reads.of_own ry7) hqy
      have hst : Below w7.heap.size w7 (w7.alloc (.cells #[.slice (p).fa (p).frs.length (p).fc, .slice (p).da (p).dfs.length (p).dc] 25)) := by (repeat' (first | exact Below.refl _ _ | assumption | refine Below.setCell ?_ (by first | omega | exact Below.size (by assumption) | (simp; done) | (simp; omega)) _ | refine Below.alloc ?_ (by first | omega | exact Below.size (by assumption) | (simp; done) | (simp; omega)) _ | refine Below.drew ?_ | refine below_drewN ?_ _))
      have z2 : (xs.length : Int) = (N : Int) + 1 := by omega
      have z3 : (ys.length : Int) = (N : Int) + 1 := by omega
      have HN := Lib.hid hN
      have e0 : (l.length : Int) - 1 = (N : Int) := by omega
      have n1 : N < xs.length := by omega
      have n2 : N < ys.length := by omega
      have s1 : ((xs.length : Int) == (N : Int) + 1) = true := by rw [z2]; simp
      have s2 : ((ys.length : Int) == (N : Int) + 1) = true := by rw [z3]; simp
      have n23 : N ≤ 23 := by omega
      have E0 := Lib.hid e0
      clear hqx hqy eqx eqy lx ly z2 z3 mx my q1 q2 q3 q4 q5 q6 q7 e0 hN
      go_upto_region 12 with (fail)
      have kp := Blk.new w7 25 #[.slice p.fa p.frs.length p.fc, .slice p.da p.dfs.length p.dc]
      have ax := ax7.all hst
      have ay := ay7.all hst
      have ap := (op.alloc (.cells #[.slice (p).fa (p).frs.length (p).fc, .slice (p).da (p).dfs.length (p).dc] 25)).at_
      have ca0 := (hst.cell (p := ⟨b1, o1 + N * 2, none⟩) bl1').trans ca0'
      have ca1 := (hst.cell (p := ⟨b1, o1 + N * 2 + 1, none⟩) bl1').trans ca1'
      have cb0 := (hst.cell (p := ⟨b2, o2 + N * 2, none⟩) bl2').trans cb0'
      have cb1 := (hst.cell (p := ⟨b2, o2 + N * 2 + 1, none⟩) bl2').trans cb1'
      have bl1 := Nat.lt_of_lt_of_le bl1' hst.size
      have bl2 := Nat.lt_of_lt_of_le bl2' hst.size
      have hB8 := hB7.trans (hst.mono hB7.size)
      obtain ⟨gP, hgP⟩ : ∃ g, g = w7.heap.size := ⟨_, rfl⟩
      obtain ⟨W8, hW8⟩ : ∃ W', W' = w7.alloc (.cells #[.slice (p).fa (p).frs.length (p).fc, .slice (p).da (p).dfs.length (p).dc] 25) := ⟨_, rfl⟩
      rw [← hgP] at kp ⊢
      rw [← hW8] at kp ax ay ap ca0 ca1 cb0 cb1 bl1 bl2 hB8 ⊢
      clear hW8 hgP ca0' ca1' cb0' cb1' bl1' bl2' hst ax7 ay7 op rx7 ry7 rx ry ox oy hb5 hb6 hb7 hb56 hB4 hB5 hB6 hB7
      have p0 := kp.cell 0
      have p1 := kp.cell 1
      have hdr : Below W8.heap.size W8 W8.drew := (Below.refl _ W8).drew
      try rw [E0.out]
      have hwr : IntKind.i64.wrap ((N : Int) + 1) = (N : Int) + 1 := by rw [IntKind.wrap_i64]; omega
      have s3 : ((xs.length : Int) == IntKind.i64.wrap ((N : Int) + 1)) = true := by rw [hwr]; exact s1
      have s4 : ((ys.length : Int) == IntKind.i64.wrap ((N : Int) + 1)) = true := by rw [hwr]; exact s2
      clear hwr
      refine wp_region_held_drew (S := (fun w' => w'.cell? ⟨b1, o1 + N * 2, none⟩ = some (.slice qx.fa qx.frs.length qx.fc) ∧ w'.cell? ⟨b1, o1 + N * 2 + 1, none⟩ = some (.slice qx.da qx.dfs.length qx.dc) ∧ w'.cell? ⟨b2, o2 + N * 2, none⟩ = some (.slice qy.fa qy.frs.length qy.fc) ∧ w'.cell? ⟨b2, o2 + N * 2 + 1, none⟩ = some (.slice qy.da qy.dfs.length qy.dc) ∧ w'.cell? ⟨gP, 0, none⟩ = some (.slice p.fa p.frs.length p.fc) ∧ w'.cell? ⟨gP, 1, none⟩ = some (.slice p.da p.dfs.length p.dc))) (by kernel_rfl) ?_ (fun hHeld => ?_)
      focus ((try dsimp only); go_keep)
      (refine wpAnyH_take (i := 0) (oi := { dst := some 93, op := Op.move (Operand.tmp 11), type := 42, pos := "law8.go:298", after := #[], guard := none }) (v := ?_) rfl (by kernel_rfl) (by kernel_rfl) (by kernel_rfl) (fun _ _ _ h => h) (Or.inl ⟨by rfl, ?_⟩) (by assumption) ?_; rotate_left; (focus (intro w hSw; (try dsimp only at hSw); go_simp; (try with_reducible rfl))); (try simp only [Act.put, List.setIfInBounds_toArray, List.set_cons_zero, List.set_cons_succ]))
      (refine wpAnyH_take (i := 1) (oi := { dst := some 94, op := Op.call { callee := Callee.builtin Builtin.len, args := #[Operand.tmp 93], argTypes := #[42] }, type := 3, pos := "law8.go:298", after := #[{ on := 0, ground := Ground.data }], guard := none }) (v := ?_) rfl (by kernel_rfl) (by kernel_rfl) (by kernel_rfl) (fun _ _ _ h => h) (Or.inl ⟨by rfl, ?_⟩) (by assumption) ?_; rotate_left; (focus (intro w hSw; (try dsimp only at hSw); go_simp; (try with_reducible rfl))); (try simp only [Act.put, List.setIfInBounds_toArray, List.set_cons_zero, List.set_cons_succ]))
      (refine wpAnyH_take (i := 2) (oi := { dst := some 95, op := Op.move (Operand.tmp 15), type := 3, pos := "law8.go:298", after := #[], guard := none }) (v := ?_) rfl (by kernel_rfl) (by kernel_rfl) (by kernel_rfl) (fun _ _ _ h => h) (Or.inl ⟨by rfl, ?_⟩) (by assumption) ?_; rotate_left; (focus (intro w hSw; (try dsimp only at hSw); go_simp; (try with_reducible rfl))); (try simp only [Act.put, List.setIfInBounds_toArray, List.set_cons_zero, List.set_cons_succ]))
      (refine wpAnyH_take (i := 3) (oi := { dst := some 96, op := Op.binOp BinOp.add 3 (Operand.tmp 95) (Operand.const (Value.int IntKind.i64 1)) 3, type := 3, pos := "law8.go:298", after := #[{ on := 2, ground := Ground.data }], guard := none }) (v := ?_) rfl (by kernel_rfl) (by kernel_rfl) (by kernel_rfl) (fun _ _ _ h => h) (Or.inl ⟨by rfl, ?_⟩) (by assumption) ?_; rotate_left; (focus (intro w hSw; (try dsimp only at hSw); go_simp; (try with_reducible rfl))); (try simp only [Act.put, List.setIfInBounds_toArray, List.set_cons_zero, List.set_cons_succ]))
      (refine wpAnyH_take (i := 4) (oi := { dst := some 97, op := Op.binOp BinOp.eql 3 (Operand.tmp 94) (Operand.tmp 96) 3, type := 4, pos := "law8.go:298", after := #[{ on := 1, ground := Ground.data }, { on := 3, ground := Ground.data }], guard := none }) (v := ?_) rfl (by kernel_rfl) (by kernel_rfl) (by kernel_rfl) (fun _ _ _ h => h) (Or.inl ⟨by rfl, ?_⟩) (by assumption) ?_; rotate_left; (focus (intro w hSw; (try dsimp only at hSw); go_simp; (try with_reducible rfl))); (try simp only [Act.put, List.setIfInBounds_toArray, List.set_cons_zero, List.set_cons_succ]))
      try rw [s3]
      (refine wpAnyH_take (i := 5) (oi := { dst := some 98, op := Op.move (Operand.tmp 97), type := 4, pos := "law8.go:298", after := #[{ on := 4, ground := Ground.data }], guard := none }) (v := ?_) rfl (by kernel_rfl) (by kernel_rfl) (by kernel_rfl) (fun _ _ _ h => h) (Or.inl ⟨by rfl, ?_⟩) (by assumption) ?_; rotate_left; (focus (intro w hSw; (try dsimp only at hSw); go_simp; (try with_reducible rfl))); (try simp only [Act.put, List.setIfInBounds_toArray, List.set_cons_zero, List.set_cons_succ]))
      (refine wpAnyH_take (i := 6) (oi := { dst := some 99, op := Op.move (Operand.tmp 12), type := 42, pos := "law8.go:298", after := #[{ on := 5, ground := Ground.guard }], guard := some (5, true) }) (v := ?_) rfl (by kernel_rfl) (by kernel_rfl) (by kernel_rfl) (fun _ _ _ h => h) (Or.inl ⟨by rfl, ?_⟩) (by assumption) ?_; rotate_left; (focus (intro w hSw; (try dsimp only at hSw); go_simp; (try with_reducible rfl))); (try simp only [Act.put, List.setIfInBounds_toArray, List.set_cons_zero, List.set_cons_succ]))
      (refine wpAnyH_take (i := 7) (oi := { dst := some 100, op := Op.call { callee := Callee.builtin Builtin.len, args := #[Operand.tmp 99], argTypes := #[42] }, type := 3, pos := "law8.go:298", after := #[{ on := 6, ground := Ground.data }, { on := 5, ground := Ground.guard }], guard := some (5, true) }) (v := ?_) rfl (by kernel_rfl) (by kernel_rfl) (by kernel_rfl) (fun _ _ _ h => h) (Or.inl ⟨by rfl, ?_⟩) (by assumption) ?_; rotate_left; (focus (intro w hSw; (try dsimp only at hSw); go_simp; (try with_reducible rfl))); (try simp only [Act.put, List.setIfInBounds_toArray, List.set_cons_zero, List.set_cons_succ]))
      (refine wpAnyH_take (i := 8) (oi := { dst := some 101, op := Op.move (Operand.tmp 15), type := 3, pos := "law8.go:298", after := #[{ on := 5, ground := Ground.guard }], guard := some (5, true) }) (v := ?_) rfl (by kernel_rfl) (by kernel_rfl) (by kernel_rfl) (fun _ _ _ h => h) (Or.inl ⟨by rfl, ?_⟩) (by assumption) ?_; rotate_left; (focus (intro w hSw; (try dsimp only at hSw); go_simp; (try with_reducible rfl))); (try simp only [Act.put, List.setIfInBounds_toArray, List.set_cons_zero, List.set_cons_succ]))
      (refine wpAnyH_take (i := 9) (oi := { dst := some 102, op := Op.binOp BinOp.add 3 (Operand.tmp 101) (Operand.const (Value.int IntKind.i64 1)) 3, type := 3, pos := "law8.go:298", after := #[{ on := 8, ground := Ground.data }, { on := 5, ground := Ground.guard }], guard := some (5, true) }) (v := ?_) rfl (by kernel_rfl) (by kernel_rfl) (by kernel_rfl) (fun _ _ _ h => h) (Or.inl ⟨by rfl, ?_⟩) (by assumption) ?_; rotate_left; (focus (intro w hSw; (try dsimp only at hSw); go_simp; (try with_reducible rfl))); (try simp only [Act.put, List.setIfInBounds_toArray, List.set_cons_zero, List.set_cons_succ]))
      (refine wpAnyH_take (i := 10) (oi := { dst := some 103, op := Op.binOp BinOp.eql 3 (Operand.tmp 100) (Operand.tmp 102) 3, type := 4, pos := "law8.go:298", after := #[{ on := 7, ground := Ground.data }, { on := 9, ground := Ground.data }, { on := 5, ground := Ground.guard }], guard := some (5, true) }) (v := ?_) rfl (by kernel_rfl) (by kernel_rfl) (by kernel_rfl) (fun _ _ _ h => h) (Or.inl ⟨by rfl, ?_⟩) (by assumption) ?_; rotate_left; (focus (intro w hSw; (try dsimp only at hSw); go_simp; (try with_reducible rfl))); (try simp only [Act.put, List.setIfInBounds_toArray, List.set_cons_zero, List.set_cons_succ]))
      try rw [s4]
      (refine wpAnyH_take (i := 11) (oi := { dst := some 104, op := Op.pick (Operand.tmp 98) (Operand.tmp 103) (Operand.const (Value.bool false)), type := 4, pos := "law8.go:298", after := #[{ on := 5, ground := Ground.data }, { on := 10, ground := Ground.data }], guard := none }) (v := ?_) rfl (by kernel_rfl) (by kernel_rfl) (by kernel_rfl) (fun _ _ _ h => h) (Or.inl ⟨by rfl, ?_⟩) (by assumption) ?_; rotate_left; (focus (intro w hSw; (try dsimp only at hSw); go_simp; (try with_reducible rfl))); (try simp only [Act.put, List.setIfInBounds_toArray, List.set_cons_zero, List.set_cons_succ]))
      (refine wpAnyH_take (i := 12) (oi := { dst := some 105, op := Op.move (Operand.tmp 104), type := 4, pos := "law8.go:298", after := #[{ on := 11, ground := Ground.data }, { on := 5, ground := Ground.chain }], guard := none }) (v := ?_) rfl (by kernel_rfl) (by kernel_rfl) (by kernel_rfl) (fun _ _ _ h => h) (Or.inl ⟨by rfl, ?_⟩) (by assumption) ?_; rotate_left; (focus (intro w hSw; (try dsimp only at hSw); go_simp; (try with_reducible rfl))); (try simp only [Act.put, List.setIfInBounds_toArray, List.set_cons_zero, List.set_cons_succ]))
      (refine wpAnyH_take (i := 13) (oi := { dst := some 106, op := Op.move (Operand.tmp 11), type := 42, pos := "law8.go:298", after := #[{ on := 12, ground := Ground.guard }], guard := some (12, true) }) (v := ?_) rfl (by kernel_rfl) (by kernel_rfl) (by kernel_rfl) (fun _ _ _ h => h) (Or.inl ⟨by rfl, ?_⟩) (by assumption) ?_; rotate_left; (focus (intro w hSw; (try dsimp only at hSw); go_simp; (try with_reducible rfl))); (try simp only [Act.put, List.setIfInBounds_toArray, List.set_cons_zero, List.set_cons_succ]))
      (refine wpAnyH_take (i := 14) (oi := { dst := some 107, op := Op.move (Operand.tmp 15), type := 3, pos := "law8.go:298", after := #[{ on := 12, ground := Ground.guard }], guard := some (12, true) }) (v := ?_) rfl (by kernel_rfl) (by kernel_rfl) (by kernel_rfl) (fun _ _ _ h => h) (Or.inl ⟨by rfl, ?_⟩) (by assumption) ?_; rotate_left; (focus (intro w hSw; (try dsimp only at hSw); go_simp; (try with_reducible rfl))); (try simp only [Act.put, List.setIfInBounds_toArray, List.set_cons_zero, List.set_cons_succ]))
      (refine wpAnyH_take (i := 15) (oi := { dst := some 108, op := Op.indexAddr 42 (Operand.tmp 106) (Operand.tmp 107), type := 0, pos := "law8.go:298", after := #[{ on := 13, ground := Ground.data }, { on := 14, ground := Ground.data }, { on := 12, ground := Ground.guard }], guard := some (12, true) }) (v := ?_) rfl (by kernel_rfl) (by kernel_rfl) (by kernel_rfl) (fun _ _ _ h => h) (Or.inl ⟨by rfl, ?_⟩) (by assumption) ?_; rotate_left; (focus (intro w hSw; (try dsimp only at hSw); go_simp; (try with_reducible rfl))); (try simp only [Act.put, List.setIfInBounds_toArray, List.set_cons_zero, List.set_cons_succ]))
      (refine wpAnyH_take (i := 16) (oi := { dst := some 109, op := Op.load 25 (Operand.tmp 108), type := 25, pos := "law8.go:298", after := #[{ on := 15, ground := Ground.data }, { on := 12, ground := Ground.guard }], guard := some (12, true) }) (v := ?_) rfl (by kernel_rfl) (by kernel_rfl) (by kernel_rfl) (fun _ _ _ h => h) (Or.inl ⟨by rfl, ?_⟩) (by assumption) ?_; rotate_left; (focus (intro w hSw; (try dsimp only at hSw); go_simp; (try with_reducible rfl))); (try simp only [Act.put, List.setIfInBounds_toArray, List.set_cons_zero, List.set_cons_succ]))
      (refine wpAnyH_take (i := 17) (oi := { dst := some 110, op := Op.load 25 (Operand.tmp 13), type := 25, pos := "law8.go:298", after := #[{ on := 12, ground := Ground.guard }], guard := some (12, true) }) (v := ?_) rfl (by kernel_rfl) (by kernel_rfl) (by kernel_rfl) (fun _ _ _ h => h) (Or.inl ⟨by rfl, ?_⟩) (by assumption) ?_; rotate_left; (focus (intro w hSw; (try dsimp only at hSw); go_simp; (try with_reducible rfl))); (try simp only [Act.put, List.setIfInBounds_toArray, List.set_cons_zero, List.set_cons_succ]))
      (refine wpAnyH_ready (rs := [18]) (by kernel_rfl) (by simp) ?_; refine AllReadyH.cons (o := { dst := some 111, op := Op.call { callee := Callee.value (Operand.func 11), args := #[Operand.tmp 109, Operand.tmp 110], argTypes := #[25, 25] }, type := 4, pos := "law8.go:298", after := #[{ on := 16, ground := Ground.data }, { on := 17, ground := Ground.data }, { on := 12, ground := Ground.chain }, { on := 12, ground := Ground.guard }], guard := some (12, true) }) rfl (fun K hK => ?_) AllReadyH.nil; go_simp; (go_at_call 11; refine (same_any qx p _ (ax.all hdr) (ap.all hdr)).mono ?_; rintro e w9 ⟨rfl, hb9⟩; rw [SX.out]; have hb9 : Below W8.heap.size W8 w9 := hdr.trans hb9; have ay9 := ay.all hb9; have ap9 := ap.all hb9; have f1 := (hb9.cell (p := ⟨b1, o1 + N * 2, none⟩) bl1).trans ca0; have f2 := (hb9.cell (p := ⟨b1, o1 + N * 2 + 1, none⟩) bl1).trans ca1; have f3 := (hb9.cell (p := ⟨b2, o2 + N * 2, none⟩) bl2).trans cb0; have f4 := (hb9.cell (p := ⟨b2, o2 + N * 2 + 1, none⟩) bl2).trans cb1; have f5 := (hb9.cell (p := ⟨gP, 0, none⟩) kp.lt).trans p0; have f6 := (hb9.cell (p := ⟨gP, 1, none⟩) kp.lt).trans p1); go_wp2_with fail; refine hK.out _ _ ?_ (fun hHeld => ?_); (focus ((try dsimp only); go_keep)); clear hK K; (try simp only [Act.put, List.setIfInBounds_toArray, List.set_cons_zero, List.set_cons_succ]))
      (refine wpAnyH_take (i := 19) (oi := { dst := some 112, op := Op.pick (Operand.tmp 105) (Operand.tmp 111) (Operand.const (Value.bool false)), type := 4, pos := "law8.go:298", after := #[{ on := 12, ground := Ground.data }, { on := 18, ground := Ground.data }], guard := none }) (v := ?_) rfl (by kernel_rfl) (by kernel_rfl) (by kernel_rfl) (fun _ _ _ h => h) (Or.inl ⟨by rfl, ?_⟩) (by assumption) ?_; rotate_left; (focus (intro w hSw; (try dsimp only at hSw); go_simp; (try with_reducible rfl))); (try simp only [Act.put, List.setIfInBounds_toArray, List.set_cons_zero, List.set_cons_succ]))
      (refine wpAnyH_take (i := 20) (oi := { dst := some 113, op := Op.move (Operand.tmp 112), type := 4, pos := "law8.go:298", after := #[{ on := 19, ground := Ground.data }, { on := 18, ground := Ground.chain }], guard := none }) (v := ?_) rfl (by kernel_rfl) (by kernel_rfl) (by kernel_rfl) (fun _ _ _ h => h) (Or.inl ⟨by rfl, ?_⟩) (by assumption) ?_; rotate_left; (focus (intro w hSw; (try dsimp only at hSw); go_simp; (try with_reducible rfl))); (try simp only [Act.put, List.setIfInBounds_toArray, List.set_cons_zero, List.set_cons_succ]))
      (refine wpAnyH_take (i := 21) (oi := { dst := some 114, op := Op.move (Operand.tmp 12), type := 42, pos := "law8.go:298", after := #[{ on := 20, ground := Ground.guard }], guard := some (20, true) }) (v := ?_) rfl (by kernel_rfl) (by kernel_rfl) (by kernel_rfl) (fun _ _ _ h => h) (Or.inl ⟨by rfl, ?_⟩) (by assumption) ?_; rotate_left; (focus (intro w hSw; (try dsimp only at hSw); go_simp; (try with_reducible rfl))); (try simp only [Act.put, List.setIfInBounds_toArray, List.set_cons_zero, List.set_cons_succ]))
      (refine wpAnyH_take (i := 22) (oi := { dst := some 115, op := Op.move (Operand.tmp 15), type := 3, pos := "law8.go:298", after := #[{ on := 20, ground := Ground.guard }], guard := some (20, true) }) (v := ?_) rfl (by kernel_rfl) (by kernel_rfl) (by kernel_rfl) (fun _ _ _ h => h) (Or.inl ⟨by rfl, ?_⟩) (by assumption) ?_; rotate_left; (focus (intro w hSw; (try dsimp only at hSw); go_simp; (try with_reducible rfl))); (try simp only [Act.put, List.setIfInBounds_toArray, List.set_cons_zero, List.set_cons_succ]))
      (refine wpAnyH_take (i := 23) (oi := { dst := some 116, op := Op.indexAddr 42 (Operand.tmp 114) (Operand.tmp 115), type := 0, pos := "law8.go:298", after := #[{ on := 21, ground := Ground.data }, { on := 22, ground := Ground.data }, { on := 20, ground := Ground.guard }], guard := some (20, true) }) (v := ?_) rfl (by kernel_rfl) (by kernel_rfl) (by kernel_rfl) (fun _ _ _ h => h) (Or.inl ⟨by rfl, ?_⟩) (by assumption) ?_; rotate_left; (focus (intro w hSw; (try dsimp only at hSw); go_simp; (try with_reducible rfl))); (try simp only [Act.put, List.setIfInBounds_toArray, List.set_cons_zero, List.set_cons_succ]))
      (refine wpAnyH_take (i := 24) (oi := { dst := some 117, op := Op.load 25 (Operand.tmp 116), type := 25, pos := "law8.go:298", after := #[{ on := 23, ground := Ground.data }, { on := 20, ground := Ground.guard }], guard := some (20, true) }) (v := ?_) rfl (by kernel_rfl) (by kernel_rfl) (by kernel_rfl) (fun _ _ _ h => h) (Or.inl ⟨by rfl, ?_⟩) (by assumption) ?_; rotate_left; (focus (intro w hSw; (try dsimp only at hSw); go_simp; (try with_reducible rfl))); (try simp only [Act.put, List.setIfInBounds_toArray, List.set_cons_zero, List.set_cons_succ]))
      (refine wpAnyH_take (i := 25) (oi := { dst := some 118, op := Op.load 25 (Operand.tmp 13), type := 25, pos := "law8.go:298", after := #[{ on := 20, ground := Ground.guard }], guard := some (20, true) }) (v := ?_) rfl (by kernel_rfl) (by kernel_rfl) (by kernel_rfl) (fun _ _ _ h => h) (Or.inl ⟨by rfl, ?_⟩) (by assumption) ?_; rotate_left; (focus (intro w hSw; (try dsimp only at hSw); go_simp; (try with_reducible rfl))); (try simp only [Act.put, List.setIfInBounds_toArray, List.set_cons_zero, List.set_cons_succ]))
      (refine wpAnyH_ready (rs := [26]) (by kernel_rfl) (by simp) ?_; refine AllReadyH.cons (o := { dst := some 119, op := Op.call { callee := Callee.value (Operand.func 11), args := #[Operand.tmp 117, Operand.tmp 118], argTypes := #[25, 25] }, type := 4, pos := "law8.go:298", after := #[{ on := 24, ground := Ground.data }, { on := 25, ground := Ground.data }, { on := 20, ground := Ground.chain }, { on := 20, ground := Ground.guard }], guard := some (20, true) }) rfl (fun K hK => ?_) AllReadyH.nil; go_simp; (go_at_call 11; refine (same_any qy p _ ay9 ap9).mono ?_; rintro e w10 ⟨rfl, hb10⟩; rw [SY.out]; have g1 := (hb10.cell (p := ⟨b1, o1 + N * 2, none⟩) (Nat.lt_of_lt_of_le bl1 hb9.size)).trans f1; have g2 := (hb10.cell (p := ⟨b1, o1 + N * 2 + 1, none⟩) (Nat.lt_of_lt_of_le bl1 hb9.size)).trans f2; have g3 := (hb10.cell (p := ⟨b2, o2 + N * 2, none⟩) (Nat.lt_of_lt_of_le bl2 hb9.size)).trans f3; have g4 := (hb10.cell (p := ⟨b2, o2 + N * 2 + 1, none⟩) (Nat.lt_of_lt_of_le bl2 hb9.size)).trans f4; have g5 := (hb10.cell (p := ⟨gP, 0, none⟩) (Nat.lt_of_lt_of_le kp.lt hb9.size)).trans f5; have g6 := (hb10.cell (p := ⟨gP, 1, none⟩) (Nat.lt_of_lt_of_le kp.lt hb9.size)).trans f6); go_wp2_with fail; refine hK.out _ _ ?_ (fun hHeld => ?_); (focus ((try dsimp only); go_keep)); clear hK K; (try simp only [Act.put, List.setIfInBounds_toArray, List.set_cons_zero, List.set_cons_succ]))
      (refine wpAnyH_take (i := 27) (oi := { dst := some 120, op := Op.pick (Operand.tmp 113) (Operand.tmp 119) (Operand.const (Value.bool false)), type := 4, pos := "law8.go:298", after := #[{ on := 20, ground := Ground.data }, { on := 26, ground := Ground.data }], guard := none }) (v := ?_) rfl (by kernel_rfl) (by kernel_rfl) (by kernel_rfl) (fun _ _ _ h => h) (Or.inl ⟨by rfl, ?_⟩) (by assumption) ?_; rotate_left; (focus (intro w hSw; (try dsimp only at hSw); go_simp; (try with_reducible rfl))); (try simp only [Act.put, List.setIfInBounds_toArray, List.set_cons_zero, List.set_cons_succ]))
      (refine wpAnyH_take (i := 28) (oi := { dst := some 6, op := Op.assign (Operand.tmp 120), type := 4, pos := "law8.go:298", after := #[{ on := 27, ground := Ground.data }, { on := 26, ground := Ground.chain }, { on := 0, ground := Ground.phase }, { on := 1, ground := Ground.phase }, { on := 2, ground := Ground.phase }, { on := 3, ground := Ground.phase }, { on := 4, ground := Ground.phase }, { on := 5, ground := Ground.phase }, { on := 6, ground := Ground.phase }, { on := 7, ground := Ground.phase }, { on := 8, ground := Ground.phase }, { on := 9, ground := Ground.phase }, { on := 10, ground := Ground.phase }, { on := 11, ground := Ground.phase }, { on := 12, ground := Ground.phase }, { on := 13, ground := Ground.phase }, { on := 14, ground := Ground.phase }, { on := 15, ground := Ground.phase }, { on := 16, ground := Ground.phase }, { on := 17, ground := Ground.phase }, { on := 18, ground := Ground.phase }, { on := 19, ground := Ground.phase }, { on := 20, ground := Ground.phase }, { on := 21, ground := Ground.phase }, { on := 22, ground := Ground.phase }, { on := 23, ground := Ground.phase }, { on := 24, ground := Ground.phase }, { on := 25, ground := Ground.phase }, { on := 26, ground := Ground.phase }, { on := 27, ground := Ground.phase }], guard := none }) (v := ?_) rfl (by kernel_rfl) (by kernel_rfl) (by kernel_rfl) (fun _ _ _ h => h) (Or.inl ⟨by rfl, ?_⟩) (by assumption) ?_; rotate_left; (focus (intro w hSw; (try dsimp only at hSw); go_simp; (try with_reducible rfl))); (try simp only [Act.put, List.setIfInBounds_toArray, List.set_cons_zero, List.set_cons_succ]))
      refine wpAnyH_done (by kernel_rfl) ?_ _
      go_wp2
      go_ret
      exact ⟨rfl, (hB8.trans (hb9.mono hB8.size)).trans (hb10.mono (Nat.le_trans hB8.size hb9.size))⟩
    · obtain ⟨ne, hne⟩ : ∃ n, (evalRes l (ps.map PtM.er)).2 = n := ⟨_, rfl⟩
      obtain ⟨nf, hnf⟩ : ∃ n, (evalRes m (ps.map PtM.er)).2 = n := ⟨_, rfl⟩
      rw [hne] at q2 q4
      rw [hnf] at q3 q4
      rw [hne, hnf, q1]
      clear ex0 ex1 ey0 ey1 hne hnf HS HL HM HCK q1 op ep
      rcases q2 with rfl | rfl <;> rcases q3 with rfl | rfl
      · exact absurd ⟨rfl, rfl⟩ q4
      all_goals
        clear q4
        go_wp2
        go_ret
        exact ⟨rfl, by (repeat' (first | exact Below.refl _ _ | assumption | refine Below.setCell ?_ (by first | omega | exact Below.size (by assumption) | (simp; done) | (simp; omega)) _ | refine Below.alloc ?_ (by first | omega | exact Below.size (by assumption) | (simp; done) | (simp; omega)) _ | refine Below.drew ?_ | refine below_drewN ?_ _))⟩
    · obtain ⟨ne, hne⟩ : ∃ n, (evalRes l (ps.map PtM.er)).2 = n := ⟨_, rfl⟩
      obtain ⟨nf, hnf⟩ : ∃ n, (evalRes m (ps.map PtM.er)).2 = n := ⟨_, rfl⟩
      obtain ⟨ng, hng⟩ : ∃ n, (allP (ps.map PtM.er)).2 = n := ⟨_, rfl⟩
      rw [hne] at q2
      rw [hnf] at q3
      rw [hng] at q1
      rw [hne, hnf, hng]
      have t3 : (ne == 0) = false := by simpa using q2
      have t4 : (nf == 0) = false := by simpa using q3
      have t5 : (ng == 0) = false := by simpa using q1
      have t6 : (ne != 0) = true := by simpa using q2
      have t7 : (nf != 0) = true := by simpa using q3
      clear ex0 ex1 ey0 ey1 hne hnf hng HS HL HM HCK q1 q2 q3 ep op
      go_wp2_with (go_at_call 19; refine (fits_any _ _).mono ?_; rintro e w' ⟨rfl, rfl⟩)
      go_ret
      exact ⟨rfl, by (repeat' (first | exact Below.refl _ _ | assumption | refine Below.setCell ?_ (by first | omega | exact Below.size (by assumption) | (simp; done) | (simp; omega)) _ | refine Below.alloc ?_ (by first | omega | exact Below.size (by assumption) | (simp; done) | (simp; omega)) _ | refine Below.drew ?_ | refine below_drewN ?_ _))⟩
  · have t : (x != 0) = true ∨ ((x != 0) = false ∧ (y != 0) = true) := by
      by_cases h : x = 0
      · exact .inr ⟨by simp [h], by simpa using fun h2 => hxy ⟨h, h2⟩⟩
      · exact .inl (by simpa using h)
    clear hxy
    rcases t with t1 | ⟨t1, t2⟩
    · go_wp2_with fail
      refine (planned_any w3).mono ?_
      rintro e w4 ⟨rfl, hb4⟩
      go_wp2
      go_ret
      exact ⟨rfl, hB3.trans (hb4.mono hB3.size)⟩
    · go_wp2_with fail
      refine (planned_any w3).mono ?_
      rintro e w4 ⟨rfl, hb4⟩
      go_wp2
      go_ret
      exact ⟨rfl, hB3.trans (hb4.mono hB3.size)⟩
end Go.Proofs.Ytkkjfjbkhafaiaa
