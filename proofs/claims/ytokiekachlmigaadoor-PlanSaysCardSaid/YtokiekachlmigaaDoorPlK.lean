/- PlK: texts that belong together. -/
import Derived.Deep.DeepCutAuto
import Derived.Laws.EntriesVeiled
import Derived.Test.YtokiekachlmigaaDoorApp
import Derived.Test.YtokiekachlmigaaDoorBA
import Derived.Test.YtokiekachlmigaaDoorPlB
import Derived.Test.YtokiekachlmigaaDoorWalk
set_option linter.all false
/- plan.Make: what it computes. -/
namespace Go.Proofs.YtokiekachlmigaaDoor
open Go.RowKit

theorem Tryd.infoNode : (Tryd.prog.info? 80).map (fun i => (i.zero, i.size, i.bytes)) = some (some (.agg #[.int .i64 0, .int .i64 0, .int .i64 0]), 3, 24) := by kernel_rfl

def ptr (g : Nat) : Value := .pointer (some ⟨g, 0, none⟩)
def growV (gL gN gP gG : Nat) : Value := .func (.func 84) #[] #[ptr gL, ptr gN, ptr gP, ptr gG]

/-- What plan.Make's closure works on. -/
structure GS (A : Option Addr) (c : Nat) (picks : List Int) (base gL gN gP gG : Nat) (l : List Nd) (next : Nat) (v : Value) (w : World) : Prop where
  hL : Blk w gL 70 #[v]
  own : w.ownsRow base 80 3 v l.length (ndCells l)
  hN : Blk w gN 3 #[.int .i64 next]
  hP : Blk w gP 47 #[.slice A picks.length c]
  hG : Blk w gG 107 #[growV gL gN gP gG]
  pk : Reads w base 1 A picks.length (intsV picks)

theorem cells_at {w : World} {t : TypeId} {cs : List Value} (j : Nat) (u : Value) (h : cs[j]? = some u) : (w.alloc (.cells cs.toArray t)).cell? ((⟨w.heap.size, 0, none⟩ : Addr).add j) = some u := by
  rw [add_none, Nat.zero_add, (Blk.new w t cs.toArray).cell]
  simpa using h

theorem grown_set (w : World) (b : Nat) (v : Value) : w.grownBy (w.setCell ⟨b, 0, none⟩ v) (some b) :=
  ⟨rfl, rfl, rfl, by simp [World.setCell], fun i _ hne => Below.heap_setCell w _ v i (fun e => hne (by rw [e]))⟩

theorem GS.push {A : Option Addr} {c : Nat} {picks : List Int} {base gL gN gP gG : Nat} {l : List Nd} {next : Nat} {v v' : Value} {w w' : World} {o : Obj} {x : Nd} (h : GS A c picks base gL gN gP gG l next v w) (hb : base ≤ w.heap.size)
    (hown : w'.ownsRow base 80 3 v' (l.length + 1) (ndCells l ++ x.cells)) (hg : (w.alloc o).grownBy w' v.ownBlock) (bL : base ≤ gL) :
    Blk w' gL 70 #[v] ∧ GS A c picks base gL gN gP gG (l ++ [x]) next v' (w'.setCell ⟨gL, 0, none⟩ v') ∧ Below base w (w'.setCell ⟨gL, 0, none⟩ v') := by
  obtain ⟨hL, own, hN, hP, hG, pk⟩ := h
  have oL := own_blk_ne own hL (by decide)
  have oN := own_blk_ne own hN (by decide)
  have oP := own_blk_ne own hP (by decide)
  have oG := own_blk_ne own hG (by decide)
  have L' := (hL.alloc o).grown hg (Ne.symm oL)
  have N' := (hN.alloc o).grown hg (Ne.symm oN)
  have P' := (hP.alloc o).grown hg (Ne.symm oP)
  have G' := (hG.alloc o).grown hg (Ne.symm oG)
  have oL' := own_blk_ne hown L' (by decide)
  obtain ⟨hb1, _⟩ := own_push own hg hb
  have hb2 : Below base w (w'.setCell ⟨gL, 0, none⟩ v') := hb1.setCell bL _
  refine ⟨L', ⟨L'.set_ 0 v', ?_, N'.far (L'.ne_ N' (by decide) ·.symm) _, P'.far (L'.ne_ P' (by decide) ·.symm) _, G'.far (L'.ne_ G' (by decide) ·.symm) _, pk.below hb2⟩, hb2⟩
  have := hown.kept (grown_set w' gL v') (.inr oL')
  rw [ndCells_append]
  simpa [ndCells] using this

theorem GS.next {A : Option Addr} {c : Nat} {picks : List Int} {base gL gN gP gG : Nat} {l : List Nd} {next : Nat} {v : Value} {w : World} (h : GS A c picks base gL gN gP gG l next v w) (bN : base ≤ gN) :
    GS A c picks base gL gN gP gG l (next + 1) v (w.setCell ⟨gN, 0, none⟩ (.int .i64 ((next : Int) + 1))) ∧ Below base w (w.setCell ⟨gN, 0, none⟩ (.int .i64 ((next : Int) + 1))) := by
  obtain ⟨hL, own, hN, hP, hG, pk⟩ := h
  have oN := own_blk_ne own hN (by decide)
  have hb : Below base w (w.setCell ⟨gN, 0, none⟩ (.int .i64 ((next : Int) + 1))) := (Below.refl _ _).setCell bN _
  exact ⟨⟨hL.far (hL.ne_ hN (by decide)) _, own.kept (grown_set w gN _) (.inr oN), hN.set_ 0 _, hP.far (hP.ne_ hN (by decide)) _, hG.far (hG.ne_ hN (by decide)) _, pk.below hb⟩, hb⟩

theorem grow_int {l LL : List Nd} {T1 T2 : Tr} (h : LL.length = l.length + T1.size + T2.size) : (LL.length : Int) = (l.length : Int) + ((T1.two T2).size : Nat) - 1 := by
  simp only [Tr.size]; omega
theorem grow_fin {A : Option Addr} {c : Nat} {picks : List Int} {base gL gN gP gG : Nat} {l LL : List Nd} {next from_ F : Nat} {LA LB : Int} {v : Value} {w : World} {T1 T2 : Tr}
    (eLL : l ++ T1.flat l.length from_ ++ T2.flat (l.length + T1.size) (F : Int) = LL) (hLA : (l.length : Int) + T1.size - 1 = LA) (hLB : ((l.length + T1.size : Nat) : Int) + T2.size - 1 = LB)
    (q6 : (F : Int) = (from_ : Int) + T1.leaves) (h : GS A c picks base gL gN gP gG (LL ++ [⟨-1, LA, LB⟩]) next v w) :
    GS A c picks base gL gN gP gG (l ++ (T1.two T2).flat l.length from_) next v w := by
  have e : l ++ (T1.two T2).flat l.length from_ = LL ++ [⟨-1, LA, LB⟩] := by
    rw [← eLL, q6, ← hLA, ← hLB, Tr.flat]
    simp only [List.append_assoc, List.append_cancel_left_eq, List.cons.injEq, and_true, Nd.mk.injEq, true_and]
    omega
  rw [e]
  exact h

set_option maxRecDepth 100000 in
set_option maxHeartbeats 4000000 in
theorem grow_any (A : Option Addr) (c : Nat) (picks : List Int) (base gL gN gP gG : Nat) (bL : base ≤ gL) (bN : base ≤ gN) (hm : picks.length ≤ 23) :
    ∀ (n : Nat) (from_ next : Nat) (l : List Nd) (v : Value) (w : World), 1 ≤ n → from_ + n ≤ 100 → next + n ≤ 100 → l.length + 2 * n ≤ 200 → base ≤ w.heap.size → GS A c picks base gL gN gP gG l next v w →
    Calls Tryd.prog 84 #[.int .i64 from_, .int .i64 n, ptr gL, ptr gN, ptr gP, ptr gG] w fun e w' => ∃ v', e = .returned (.int .i64 ((l.length : Int) + (growT (fun j => picks.getD j 0) n next).size - 1)) ∧
      GS A c picks base gL gN gP gG (l ++ (growT (fun j => picks.getD j 0) n next).flat l.length from_) (next + n - 1) v' w' ∧ Below base w w' := by
  obtain ⟨i0, hi, hz0, hz1, hz2⟩ := info_parts Tryd.infoNode
  intro n
  induction n using Nat.strongRecOn with
  | _ n ih =>
    intro from_ next l v w hn hf hx hl hbw hs
    have cL := hs.hL.cell 0
    have fL := hs.hL.frozen 0
    by_cases h1 : n = 1
    · subst h1
      rw [growT_one]
      unfold ptr
      clear ih
      go_enter Tryd.func84, Tryd.ntmps84
      go_wp2_with (at_builtin; refine wpList_append_own _ rfl (.tmp 14) (.tmp 17) 70 rfl base 80 i0 _ 3 24 Tryd.underlying70 hi hz0 hz1 hz2 rfl (by decide) _ _ _ rfl (hs.own.alloc _) ⟨w.heap.size, 0, none⟩ 1 1 [.int .i64 from_, .int .i64 0, .int .i64 0] rfl rfl ?c1 ?c2 ?c3 ?c4 ?c5 ?_)
      case c1 => exact cells_at
      case c2 => intro u hu; simp at hu; rcases hu with rfl | rfl | rfl <;> rfl
      case c3 => unfold maxLen; omega
      case c4 => omega
      case c5 => simp; omega
      intro v' w3 hown3 hg3 _
      obtain ⟨L3, hs3, hb3⟩ := hs.push (x := ⟨from_, 0, 0⟩) hbw hown3 hg3 bL
      have c3 := L3.cell 0
      have f3 := L3.frozen 0
      obtain ⟨A1, c1, rfl, _, _⟩ := RowAt.of_own hown3
      clear hown3 hg3 hs cL fL
      go_wp2
      go_ret
      exact ⟨_, ret_int (by simp [Tr.size]), hs3, hb3⟩
    · obtain ⟨k, hk, hkn⟩ := pick_bounds (fun j => picks.getD j 0) next (show 2 ≤ n by omega)
      rw [growT_two (by omega) hk]
      have cN := hs.hN.cell 0
      have fN := hs.hN.frozen 0
      have cP := hs.hP.cell 0
      have cG := hs.hG.cell 0
      have hn1 : ((n : Int) == 1) = false := beq_eq_false_iff_ne.2 (by omega)
      have n2 : 2 ≤ n := by omega
      unfold ptr at *
      clear h1
      have hT1 := growT_leaves (fun j => picks.getD j 0) (k + 1) (next + 1) (by omega)
      have hT2 := growT_leaves (fun j => picks.getD j 0) (n - k - 1) (next + 1 + k) (by omega)
      have I1 := fun (v : Value) (w : World) => ih (k + 1) (by omega) from_ (next + 1) l v w (by omega) (by omega) (by omega) (by omega)
      have I2 := fun (l : List Nd) (v : Value) (w : World) (hl : l.length + 2 * (n - k - 1) ≤ 200) => ih (n - k - 1) (by omega) (from_ + k + 1) (next + 1 + k) l v w (by omega) (by omega) (by omega) hl
      clear ih
      obtain ⟨T1, e1⟩ : ∃ T, growT (fun j => picks.getD j 0) (k + 1) (next + 1) = T := ⟨_, rfl⟩
      obtain ⟨T2, e2⟩ : ∃ T, growT (fun j => picks.getD j 0) (n - k - 1) (next + 1 + k) = T := ⟨_, rfl⟩
      rw [e1] at hT1 I1 ⊢
      rw [e2] at hT2 I2 ⊢
      clear e1 e2
      have z1 := T1.size_eq
      have z2 := T2.size_eq
      have y1 := T1.flat_len l.length from_
      have y2 := T2.flat_len (l.length + T1.size) ((from_ : Int) + T1.leaves)
      have I2 := fun (v : Value) (w : World) => I2 (l ++ T1.flat l.length from_) v w (by rw [List.length_append, y1]; omega)
      have q0 : (l ++ T1.flat l.length from_).length = l.length + T1.size := by rw [List.length_append, y1]
      rw [q0] at I2
      have q1 := Lib.hid (show (k : Int) + 1 = ((k + 1 : Nat) : Int) from rfl)
      have q2 := Lib.hid (show next + 1 + (k + 1) - 1 = next + 1 + k from by omega)
      have q3 := Lib.hid (show (from_ : Int) + k + 1 = ((from_ + k + 1 : Nat) : Int) from by omega)
      have q4 := Lib.hid (show (n : Int) - k - 1 = ((n - k - 1 : Nat) : Int) from by omega)
      have q5 := Lib.hid (show next + 1 + k + (n - k - 1) - 1 = next + n - 1 from by omega)
      have q6 := Lib.hid (show ((from_ + k + 1 : Nat) : Int) = (from_ : Int) + T1.leaves from by omega)
      obtain ⟨LA, hLA⟩ : ∃ a, (l.length : Int) + T1.size - 1 = a := ⟨_, rfl⟩
      obtain ⟨LB, hLB⟩ : ∃ a, ((l.length + T1.size : Nat) : Int) + T2.size - 1 = a := ⟨_, rfl⟩
      rw [hLA] at I1
      rw [hLB] at I2
      obtain ⟨hs1, hb1⟩ := hs.next bN
      have qL : (l ++ T1.flat l.length from_ ++ T2.flat (l.length + T1.size) ((from_ + k + 1 : Nat) : Int)).length = l.length + T1.size + T2.size := by
        rw [List.length_append, q0, q6.out, y2]
      obtain ⟨LL, eLL⟩ : ∃ L, l ++ T1.flat l.length from_ ++ T2.flat (l.length + T1.size) ((from_ + k + 1 : Nat) : Int) = L := ⟨_, rfl⟩
      rw [eLL] at I2 qL
      obtain ⟨LM, eLM⟩ : ∃ L, l ++ T1.flat l.length from_ = L := ⟨_, rfl⟩
      rw [eLM] at I1 I2
      have hLL : LL.length ≤ 200 := by omega
      replace eLL := Lib.hid eLL
      replace eLM := Lib.hid eLM
      replace qL := Lib.hid qL
      have h200 : l.length + T1.size + T2.size ≤ 200 := by omega
      have w1 : T1.size ≤ 200 := by omega
      have w2 : T2.size ≤ 200 := by omega
      replace z1 := Lib.hid z1
      replace z2 := Lib.hid z2
      replace hT1 := Lib.hid hT1
      replace hT2 := Lib.hid hT2
      replace hLA := Lib.hid hLA
      replace hLB := Lib.hid hLB
      have w3 : -1 ≤ LA ∧ LA ≤ 200 := by have := hLA.out; omega
      have w4 : -1 ≤ LB ∧ LB ≤ 200 := by have := hLB.out; omega
      clear y1 y2 q0
      by_cases hp : next < picks.length
      · obtain ⟨b, off, u, rfl, hbb, hu, hc⟩ := hs.pk.at_ hp
        rw [show (intsV picks)[next]? = some (intV picks[next]) by simp [intsV, hp]] at hu
        cases hu
        obtain ⟨x, hx'⟩ : ∃ x, picks[next] = x := ⟨_, rfl⟩
        rw [hx'] at hc
        have hk' : x % ((n - 1 : Nat) : Int) = k := by rw [← hk, ← hx']; simp [hp]
        have e1 : ((n - 1 : Nat) : Int) = (n : Int) - 1 := by omega
        rw [e1, emod_of_tmod x _ (by omega)] at hk'
        have hne : ((n : Int) - 1 == 0) = false := beq_eq_false_iff_ne.2 (by omega)
        unfold intV at hc
        have tb := tmod_bounds x ((n : Int) - 1) (by omega)
        have tb0 := tb.1
        have tb1 := tb.2
        rcases Int.lt_or_le (x.tmod ((n : Int) - 1)) 0 with hneg | hpos
        · rw [if_pos hneg] at hk'
          go_enter Tryd.func84, Tryd.ntmps84
          go_upto_region 9 with (fail)
          (have hG0 := hs1.hG.cell 0; unfold growV ptr at hG0; go_wp2_with fail; (try rw [q1.out]); refine (I1 _ _ (Nat.le_trans hbw hb1.size) hs1).mono ?_; rintro e w2 ⟨v2, rfl, hs2, hb2⟩; have hb12 := hb1.trans hb2; rw [q2.out] at hs2; have hG2 := hs2.hG.cell 0; unfold growV ptr at hG2; clear hs1 hb1 hb2 hG0 I1; go_wp2_with fail; (try rw [q3.out]); (try rw [q4.out]); refine (I2 _ _ (Nat.le_trans hbw hb12.size) hs2).mono ?_; rintro e w3 ⟨v3, rfl, hs3, hb3⟩; have hb13 := hb12.trans hb3; rw [q5.out] at hs3; clear hs2 hb12 hb3 hG2 I2; have hL3 := hs3.hL.cell 0; have fL3 := hs3.hL.frozen 0; go_wp2_with (at_builtin; refine wpList_append_own _ rfl (.tmp 56) (.tmp 60) 70 rfl base 80 i0 _ 3 24 Tryd.underlying70 hi hz0 hz1 hz2 rfl (by decide) _ _ _ rfl (hs3.own.alloc _) ⟨w3.heap.size, 0, none⟩ 1 1 [.int .i64 (-1), .int .i64 LA, .int .i64 LB] rfl rfl ?c1 ?c2 ?c3 ?c4 ?c5 ?_); (case c1 => exact cells_at); (case c2 => intro u hu; simp at hu; rcases hu with rfl | rfl | rfl <;> rfl); (case c3 => unfold maxLen; omega); (case c4 => omega); (case c5 => have := hb13.size; simp; omega); intro v' w4 hown4 hg4 _; obtain ⟨L4, hs4, hb4⟩ := hs3.push (x := ⟨-1, LA, LB⟩) (Nat.le_trans hbw hb13.size) hown4 hg4 bL; have c4 := L4.cell 0; have f4 := L4.frozen 0; obtain ⟨A1, c1, rfl, _, _⟩ := RowAt.of_own hown4; clear hown4 hg4 hs3 hL3 fL3; go_wp2; go_ret; exact ⟨_, ret_int (grow_int qL.out), grow_fin eLL.out hLA.out hLB.out q6.out hs4, hb13.trans hb4⟩)
        · rw [if_neg (by omega)] at hk'
          go_enter Tryd.func84, Tryd.ntmps84
          go_upto_region 9 with (fail)
          (have hG0 := hs1.hG.cell 0; unfold growV ptr at hG0; go_wp2_with fail; (try rw [q1.out]); refine (I1 _ _ (Nat.le_trans hbw hb1.size) hs1).mono ?_; rintro e w2 ⟨v2, rfl, hs2, hb2⟩; have hb12 := hb1.trans hb2; rw [q2.out] at hs2; have hG2 := hs2.hG.cell 0; unfold growV ptr at hG2; clear hs1 hb1 hb2 hG0 I1; go_wp2_with fail; (try rw [q3.out]); (try rw [q4.out]); refine (I2 _ _ (Nat.le_trans hbw hb12.size) hs2).mono ?_; rintro e w3 ⟨v3, rfl, hs3, hb3⟩; have hb13 := hb12.trans hb3; rw [q5.out] at hs3; clear hs2 hb12 hb3 hG2 I2; have hL3 := hs3.hL.cell 0; have fL3 := hs3.hL.frozen 0; go_wp2_with (at_builtin; refine wpList_append_own _ rfl (.tmp 56) (.tmp 60) 70 rfl base 80 i0 _ 3 24 Tryd.underlying70 hi hz0 hz1 hz2 rfl (by decide) _ _ _ rfl (hs3.own.alloc _) ⟨w3.heap.size, 0, none⟩ 1 1 [.int .i64 (-1), .int .i64 LA, .int .i64 LB] rfl rfl ?c1 ?c2 ?c3 ?c4 ?c5 ?_); (case c1 => exact cells_at); (case c2 => intro u hu; simp at hu; rcases hu with rfl | rfl | rfl <;> rfl); (case c3 => unfold maxLen; omega); (case c4 => omega); (case c5 => have := hb13.size; simp; omega); intro v' w4 hown4 hg4 _; obtain ⟨L4, hs4, hb4⟩ := hs3.push (x := ⟨-1, LA, LB⟩) (Nat.le_trans hbw hb13.size) hown4 hg4 bL; have c4 := L4.cell 0; have f4 := L4.frozen 0; obtain ⟨A1, c1, rfl, _, _⟩ := RowAt.of_own hown4; clear hown4 hg4 hs3 hL3 fL3; go_wp2; go_ret; exact ⟨_, ret_int (grow_int qL.out), grow_fin eLL.out hLA.out hLB.out q6.out hs4, hb13.trans hb4⟩)
      · obtain rfl : k = 0 := by
          have : picks.getD next 0 = 0 := by simp [List.getElem?_eq_none (by omega : picks.length ≤ next)]
          rw [this, Int.zero_emod] at hk
          omega
        rw [show ((0 + 1 : Nat) : Int) = 1 from rfl] at I1
        have q3 := Lib.hid (show (from_ : Int) + 1 = ((from_ + 0 + 1 : Nat) : Int) from by omega)
        have q4 := Lib.hid (show (n : Int) - 1 = ((n - 0 - 1 : Nat) : Int) from by omega)
        go_enter Tryd.func84, Tryd.ntmps84
        go_upto_region 9 with (fail)
        (have hG0 := hs1.hG.cell 0; unfold growV ptr at hG0; go_wp2_with fail; (try rw [q1.out]); refine (I1 _ _ (Nat.le_trans hbw hb1.size) hs1).mono ?_; rintro e w2 ⟨v2, rfl, hs2, hb2⟩; have hb12 := hb1.trans hb2; rw [q2.out] at hs2; have hG2 := hs2.hG.cell 0; unfold growV ptr at hG2; clear hs1 hb1 hb2 hG0 I1; go_wp2_with fail; (try rw [q3.out]); (try rw [q4.out]); refine (I2 _ _ (Nat.le_trans hbw hb12.size) hs2).mono ?_; rintro e w3 ⟨v3, rfl, hs3, hb3⟩; have hb13 := hb12.trans hb3; rw [q5.out] at hs3; clear hs2 hb12 hb3 hG2 I2; have hL3 := hs3.hL.cell 0; have fL3 := hs3.hL.frozen 0; go_wp2_with (at_builtin; refine wpList_append_own _ rfl (.tmp 56) (.tmp 60) 70 rfl base 80 i0 _ 3 24 Tryd.underlying70 hi hz0 hz1 hz2 rfl (by decide) _ _ _ rfl (hs3.own.alloc _) ⟨w3.heap.size, 0, none⟩ 1 1 [.int .i64 (-1), .int .i64 LA, .int .i64 LB] rfl rfl ?c1 ?c2 ?c3 ?c4 ?c5 ?_); (case c1 => exact cells_at); (case c2 => intro u hu; simp at hu; rcases hu with rfl | rfl | rfl <;> rfl); (case c3 => unfold maxLen; omega); (case c4 => omega); (case c5 => have := hb13.size; simp; omega); intro v' w4 hown4 hg4 _; obtain ⟨L4, hs4, hb4⟩ := hs3.push (x := ⟨-1, LA, LB⟩) (Nat.le_trans hbw hb13.size) hown4 hg4 bL; have c4 := L4.cell 0; have f4 := L4.frozen 0; obtain ⟨A1, c1, rfl, _, _⟩ := RowAt.of_own hown4; clear hown4 hg4 hs3 hL3 fL3; go_wp2; go_ret; exact ⟨_, ret_int (grow_int qL.out), grow_fin eLL.out hLA.out hLB.out q6.out hs4, hb13.trans hb4⟩)
end Go.Proofs.YtokiekachlmigaaDoor

/- plan.Make: what it computes. -/
namespace Go.Proofs.YtokiekachlmigaaDoor
open Go.RowKit

/-- What plan.Make answers. -/
def makeRes (parts : Int) (picks : List Int) : List Nd × Int :=
  if parts < 1 ∨ 12 < parts then ([], 3) else if 23 < picks.length then ([], 2) else ((growT (fun j => picks.getD j 0) parts.toNat 0).flat 0 0, 0)
theorem makeRes_range {parts : Int} {picks : List Int} (h : parts < 1 ∨ 12 < parts) : makeRes parts picks = ([], 3) := by unfold makeRes; rw [if_pos h]
theorem makeRes_many {parts : Int} {picks : List Int} (h : ¬ (parts < 1 ∨ 12 < parts)) (h1 : 23 < picks.length) : makeRes parts picks = ([], 2) := by unfold makeRes; rw [if_neg h, if_pos h1]
theorem makeRes_ok {parts : Int} {picks : List Int} (h : ¬ (parts < 1 ∨ 12 < parts)) (h1 : ¬ 23 < picks.length) : makeRes parts picks = ((growT (fun j => picks.getD j 0) parts.toNat 0).flat 0 0, 0) := by unfold makeRes; rw [if_neg h, if_neg h1]

def MakeIs (w : World) (r : List Nd × Int) (e : Ending) (w' : World) : Prop := ∃ v, e = .returned (.tuple #[v, .int .i64 r.2]) ∧ RowAt w' v 3 r.1.length (ndCells r.1) ∧ Below w.heap.size w w'

/-- The world in which plan.Make first calls its closure. -/
def grow0 (w : World) (A : Option Addr) (n c : Nat) : World :=
  (((w.alloc (.cells #[.slice A n c] 47)).alloc (.cells #[.slice none 0 0] 70)).alloc (.cells #[.int .i64 0] 3)).alloc (.cells #[growV (w.heap.size + 1) (w.heap.size + 1 + 1) w.heap.size (w.heap.size + 1 + 1 + 1)] 107)
theorem GS.start {A : Option Addr} {c : Nat} {picks : List Int} {w : World} (h : Reads w w.heap.size 1 A picks.length (intsV picks)) :
    GS A c picks w.heap.size (w.heap.size + 1) (w.heap.size + 1 + 1) w.heap.size (w.heap.size + 1 + 1 + 1) [] 0 (.slice none 0 0) (grow0 w A picks.length c) ∧ Below w.heap.size w (grow0 w A picks.length c) := by
  have hb : Below w.heap.size w (grow0 w A picks.length c) := by unfold grow0; (repeat' (first | exact Below.refl _ _ | assumption | refine Below.setCell ?_ (by first | omega | exact Below.size (by assumption) | (simp; done) | (simp; omega)) _ | refine Below.alloc ?_ (by first | omega | exact Below.size (by assumption) | (simp; done) | (simp; omega)) _ | refine Below.drew ?_ | refine below_drewN ?_ _))
  refine ⟨⟨?_, World.ownsRow_nil _ _ _ _, ?_, ?_, ?_, h.below hb⟩, hb⟩
  · exact ((Blk.new' (w.alloc _) _ _ (by simp)).alloc _).alloc _
  · exact (Blk.new' ((w.alloc _).alloc _) _ _ (by simp)).alloc _
  · exact (((Blk.new' w _ _ rfl).alloc _).alloc _).alloc _
  · exact Blk.new' (((w.alloc _).alloc _).alloc _) _ _ (by simp)

set_option maxRecDepth 100000 in
set_option maxHeartbeats 4000000 in
theorem make_any (parts : Int) (A : Option Addr) (c : Nat) (picks : List Int) (w : World) (h : Reads w w.heap.size 1 A picks.length (intsV picks)) (hm : picks.length ≤ 9223372036854775807) :
    Calls Tryd.prog 39 #[.int .i64 parts, .slice A picks.length c] w (MakeIs w (makeRes parts picks)) := by
  unfold MakeIs
  by_cases hr : parts < 1 ∨ 12 < parts
  · have HR := Lib.hid (makeRes_range (picks := picks) hr)
    go_enter Tryd.func39, Tryd.ntmps39
    go_wp2
    all_goals first
      | (go_ret2; rw [HR.out]; exact ⟨_, rfl, RowAt.nil _ _, by (repeat' (first | exact Below.refl _ _ | assumption | refine Below.setCell ?_ (by first | omega | exact Below.size (by assumption) | (simp; done) | (simp; omega)) _ | refine Below.alloc ?_ (by first | omega | exact Below.size (by assumption) | (simp; done) | (simp; omega)) _ | refine Below.drew ?_ | refine below_drewN ?_ _))⟩)
      | (exfalso; omega)
  · have r0 : 1 ≤ parts := by omega
    have r1 : parts ≤ 12 := by omega
    have g1 : decide (parts < 1) = false := by simp; omega
    have g2 : decide (12 < parts) = false := by simp; omega
    by_cases h23 : 23 < picks.length
    · have HR := Lib.hid (makeRes_many hr h23)
      clear hr
      go_enter Tryd.func39, Tryd.ntmps39
      go_wp2
      go_ret2
      rw [HR.out]
      exact ⟨_, rfl, RowAt.nil _ _, by (repeat' (first | exact Below.refl _ _ | assumption | refine Below.setCell ?_ (by first | omega | exact Below.size (by assumption) | (simp; done) | (simp; omega)) _ | refine Below.alloc ?_ (by first | omega | exact Below.size (by assumption) | (simp; done) | (simp; omega)) _ | refine Below.drew ?_ | refine below_drewN ?_ _))⟩
    · have HR := Lib.hid (makeRes_ok hr h23)
      clear hr
      have h23' : picks.length ≤ 23 := by omega
      obtain ⟨n, rfl⟩ : ∃ n : Nat, parts = n := ⟨parts.toNat, by omega⟩
      go_enter Tryd.func39, Tryd.ntmps39
      go_wp2_with fail
      obtain ⟨s0, hb0⟩ := GS.start (c := c) h
      have I := grow_any A c picks w.heap.size (w.heap.size + 1) (w.heap.size + 1 + 1) w.heap.size (w.heap.size + 1 + 1 + 1) (by omega) (by omega) h23' n 0 0 [] _ _ (by omega) (by omega) (by omega) (by simp; omega) hb0.size s0
      rw [show ((0 : Nat) : Int) = 0 from rfl] at I
      unfold grow0 growV ptr at I
      unfold grow0 growV ptr at hb0
      refine I.mono ?_
      rintro e w1 ⟨v1, rfl, hs1, hb1⟩
      have hbb := hb0.trans hb1
      have cL := hs1.hL.cell 0
      have hrow := RowAt.of_own hs1.own
      clear hs1 hb1 hb0 I s0
      go_wp2
      go_ret2
      rw [HR.out]
      exact ⟨_, rfl, by simpa using hrow, hbb⟩
end Go.Proofs.YtokiekachlmigaaDoor

/- What plan.Make makes, as a plan. No program in sight. -/
namespace Go.Proofs.YtokiekachlmigaaDoor
open Go.RowKit

theorem make_form {parts : Int} {picks : List Int} {l : List Nd} (h : makeRes parts picks = (l, 0)) :
    1 ≤ parts ∧ parts ≤ 12 ∧ picks.length ≤ 23 ∧ ∃ t : Tr, t = growT (fun j => picks.getD j 0) parts.toNat 0 ∧ (t.leaves : Int) = parts ∧ l = t.flat 0 0 := by
  by_cases hr : parts < 1 ∨ 12 < parts
  · rw [makeRes_range hr] at h; cases h
  · by_cases h1 : 23 < picks.length
    · rw [makeRes_many hr h1] at h; cases h
    · rw [makeRes_ok hr h1] at h
      cases h
      exact ⟨by omega, by omega, by omega, _, rfl, by rw [growT_leaves _ _ _ (by omega)]; omega, rfl⟩
theorem make_plan {parts : Int} {picks : List Int} {l : List Nd} (h : makeRes parts picks = (l, 0)) : ckPlan l parts = 0 := by
  obtain ⟨h0, h1, _, t, _, e, rfl⟩ := make_form h
  rw [← e]; exact t.plan (by omega)
theorem make_more {parts : Int} {picks : List Int} {l : List Nd} (h : makeRes parts picks = (l, 0)) : ckPlan l (parts + 1) ≠ 0 := by
  obtain ⟨h0, h1, _, t, _, e, rfl⟩ := make_form h
  rw [← e]; exact t.plan_more (by omega)
theorem make_less {parts : Int} {picks : List Int} {l : List Nd} (h : makeRes parts picks = (l, 0)) : ckPlan (l.take (l.length - 1)) parts ≠ 0 := by
  obtain ⟨h0, h1, _, t, _, e, rfl⟩ := make_form h
  rw [← e]; exact t.plan_less (by omega)
theorem make_len {parts : Int} {picks : List Int} {l : List Nd} (h : makeRes parts picks = (l, 0)) : (l.length : Int) = 2 * parts - 1 := by
  obtain ⟨h0, h1, _, t, _, e, rfl⟩ := make_form h
  rw [t.flat_len]; have := t.size_eq; omega
/-- Picks beyond those that are wanted change nothing. -/
theorem make_same {parts : Int} {picks more : List Int} {l : List Nd} (h : makeRes parts picks = (l, 0)) (hp : parts - 1 ≤ picks.length) (hm : (picks.take (parts - 1).toNat ++ more).length ≤ 23) :
    makeRes parts (picks.take (parts - 1).toNat ++ more) = (l, 0) := by
  obtain ⟨h0, h1, _, t, ht, e, rfl⟩ := make_form h
  rw [makeRes_ok (by omega) (by omega), ht]
  congr 2
  refine growT_same _ _ _ _ (by omega) fun j _ hj => ?_
  rw [List.getD_eq_getElem?_getD, List.getD_eq_getElem?_getD, List.getElem?_append_left (by rw [List.length_take]; omega), List.getElem?_take_of_lt (by omega)]
end Go.Proofs.YtokiekachlmigaaDoor
