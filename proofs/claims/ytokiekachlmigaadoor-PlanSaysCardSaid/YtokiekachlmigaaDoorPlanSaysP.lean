/- ropewalklaw.PlanSays: for any nodes, parts, number, picks and truths the call returns true, and each argument reads behind the call as it read before. The two tables of unicode/utf8 are tied. -/
import Derived.Test.YtokiekachlmigaaDoorRows
import Derived.Test.YtokiekachlmigaaDoorPlanSaysW
import Derived.Test.YtokiekachlmigaaDoorLkP
import Derived.Test.YtokiekachlmigaaDoorOpenB
import Derived.ChangeOld
import Derived.ShutString
import Derived.SizedLaws
import Derived.JoinedCond
import Derived.Test.YtokiekachlmigaaDoorLaid
import Derived.Test.YtokiekachlmigaaDoorTie
import Derived.Test.YtokiekachlmigaaDoorCards
import Derived.SevenTiedAt
set_option linter.all false
namespace Go.Proofs.YtokiekachlmigaaDoor.lawPlanSays
open Go.ChangeShapes Go.WideShapes Go.ChangeAt Go.RowKit
set_option linter.unusedVariables false

theorem own : ownKnob Tryd.prog.godebug = none := by kernel_rfl
theorem laidOut : laidOutB Tryd.prog = true := by kernel_rfl

set_option maxRecDepth 100000 in
theorem lifted (os : Os) (started : os.Started) (H : Type) (enc : TypeId × Value → H) :
    ReturnsInHanded {} Tryd.checked os 6 .any (fun w args => (Rows.planSaysSpec.pre enc Tryd.prog Tryd.f6 Rows.planSaysRow.domain false w args ∧ laidMetH Tryd.prog laidL w) ∧ sizedMet enc Tryd.prog Tryd.f6 (OpenSpec.ofChange Rows.planSaysSpec) false w args) (Rows.planSaysSpec.post enc Tryd.prog Tryd.f6 false true false false) := by
  refine returnsInHanded_of_change_and (C := Tryd.checked) (X := fun w _ => laidMetH Tryd.prog laidL w) (fun _ _ _ hh h => h.of_heap hh) own started (by kernel_rfl) Tryd.func6
    (ChangeSpec.witness_at (enc := enc) (C := Tryd.checked) (os := os) (X := fun w _ => laidMetH Tryd.prog laidL w) false (laidWorld os) #[.slice none 0 0, .slice none 0 0, .int .i64 0, .slice none 0 0, .slice none 0 0] 8 rfl (by kernel_rfl) (by kernel_rfl) (by kernel_rfl) (by kernel_rfl) (by kernel_rfl) (laid_met os _)) ?_
  intro W base args ds gs before hval0 hW hcnd hsz hL _
  have hval : ∀ (j : Nat) t v, Tryd.f6.params[j]? = some t → args[j]? = some v → Value.okWide Tryd.prog W .any base t v := hval0
  have hW' := hW
  obtain ⟨p, q, hA0, hV, rfl, hfz, hnd⟩ := hW
  have hA : DataW.TrodAll enc Tryd.prog W 0 (fun _ => true) true Tryd.f6.params.toList args.toList ds p := hA0
  rw [Tryd.params6] at hA hval
  obtain ⟨v0, vs0, d0, ds0, p0, q0, hargs, rfl, rfl, h0, r0⟩ := trodAll_cons hA
  obtain ⟨v1, vs1, d1, ds1, p1, q1, rfl, rfl, rfl, h1, r1⟩ := trodAll_cons r0
  obtain ⟨v2, vs2, d2, ds2, p2, q2, rfl, rfl, rfl, h2, r2⟩ := trodAll_cons r1
  obtain ⟨v3, vs3, d3, ds3, p3, q3, rfl, rfl, rfl, h3, r3⟩ := trodAll_cons r2
  obtain ⟨v4, vs4, d4, ds4, p4, q4, rfl, rfl, rfl, h4, r4⟩ := trodAll_cons r3
  obtain ⟨rfl, rfl, rfl⟩ := trodAll_nil r4
  obtain rfl : args = #[v0, v1, v2, v3, v4] := by cases args; simp_all
  obtain ⟨rfl, rfl⟩ := trodVars_none hV
  have k0 := h0
  have lt0 : ∀ x ∈ p0, x.block < W.heap.size := by obtain ⟨m, hm⟩ := k0; exact DataW.trod_lt m _ _ _ hm
  have k1 := h1
  have lt1 : ∀ x ∈ p1, x.block < W.heap.size := by obtain ⟨m, hm⟩ := k1; exact DataW.trod_lt m _ _ _ hm
  have k2 := h2
  have lt2 : ∀ x ∈ p2, x.block < W.heap.size := by obtain ⟨m, hm⟩ := k2; exact DataW.trod_lt m _ _ _ hm
  have k3 := h3
  have lt3 : ∀ x ∈ p3, x.block < W.heap.size := by obtain ⟨m, hm⟩ := k3; exact DataW.trod_lt m _ _ _ hm
  have k4 := h4
  have lt4 : ∀ x ∈ p4, x.block < W.heap.size := by obtain ⟨m, hm⟩ := k4; exact DataW.trod_lt m _ _ _ hm
  obtain ⟨s0, rfl, o0, z0⟩ := open_sliceArg Tryd.underlying70 opens_nodes (hval 0 70 v0 rfl rfl) h0
  obtain ⟨s1, rfl, o1, z1⟩ := open_sliceArg Tryd.underlying58 opens_parts (hval 1 58 v1 rfl rfl) h1
  obtain ⟨a2, rfl, rfl, rfl, w2⟩ := open_int Tryd.underlying3 (hval 2 3 v2 rfl rfl) h2
  obtain ⟨s3, rfl, o3, z3⟩ := open_sliceArg Tryd.underlying47 opens_ints (hval 3 47 v3 rfl rfl) h3
  obtain ⟨s4, rfl, o4, z4⟩ := open_sliceArg Tryd.underlying71 opens_bools (hval 4 71 v4 rfl rfl) h4
  clear hA0 hval0
  have walk : Calls Tryd.prog 6 #[.slice s0.A s0.l.length s0.c, .slice s1.A s1.l.length s1.c, .int .i64 a2, .slice s3.A s3.l.length s3.c, .slice s4.A s4.l.length s4.c] W fun e w' => e = .returned (.bool true) ∧ Below W.heap.size W w' := by
    exact planSays_any s0.A s1.A s3.A s4.A s0.c s1.c s3.c s4.c s0.l s1.l a2 s3.l s4.l W (nodes_reads o0) (Nat.le_trans o0.cap o0.max) ⟨o1.reads, o1.each⟩ (Nat.le_trans o1.cap o1.max) (ints_reads o3) o3.cap (Nat.le_trans o3.cap o3.max) (ints_each o3) (bools_reads o4) (Nat.le_trans o4.cap o4.max)
  refine walk.mono fun e W' ⟨he, bel⟩ => ?_
  subst he
  exact ⟨_, rfl, _, _, _, [], _, [], hW', trodAll_mk1 (shut_bool Tryd.underlying4 _), (trodAll_cons_mk (Below.trod laidOut (by kernel_rfl) (of_decide_eq_true (by kernel_rfl)) k0 bel lt0) (trodAll_cons_mk (Below.trod laidOut (by kernel_rfl) (of_decide_eq_true (by kernel_rfl)) k1 bel lt1) (trodAll_cons_mk (shut_int Tryd.underlying3 w2) (trodAll_cons_mk (Below.trod laidOut (by kernel_rfl) (of_decide_eq_true (by kernel_rfl)) k3 bel lt3) (trodAll_cons_mk (Below.trod laidOut (by kernel_rfl) (of_decide_eq_true (by kernel_rfl)) k4 bel lt4) trodAll_mk0))))), rfl, bel.frame _, fun h => by cases h⟩

/-- The statement. -/
theorem over : Rows.planSaysRow.holds Tryd.pinned (OpenSpec.ofChange Rows.planSaysSpec) :=
  OpenClaim.holds_of_wide 6 Tryd.f6 rfl rfl rfl rfl rfl rfl rfl ⟨rfl, rfl, rfl, rfl, rfl⟩ rfl rfl rfl rfl rfl (by kernel_rfl) Tryd.func6 (by kernel_rfl)
    (of_decide_eq_true (by kernel_rfl)) (by unfold Func.isWrapper; rw [if_neg (of_decide_eq_false (by kernel_rfl))]; exact ⟨rfl, rfl⟩)
    (fun os started H enc _ => lifted os started H enc)
theorem proved : Rows.PlanSaysCardSaid := by
  unfold Rows.PlanSaysCardSaid Rows.planSaysCard
  exact Claim7.holds_tied_plain_at .later [] [.data, .pinned] true _ true
    over (fun _ h => by cases h) (by kernel_rfl) (fun _ h => by cases h) planSays_row_tie rfl ⟨rfl, rfl⟩ (by kernel_rfl) rfl
    (fun f fn hf hfn => by
      obtain rfl : f = 6 := Option.some.inj ((show Tryd.prog.funcNamed "ropewalk/ropewalklaw.PlanSays" = some 6 by kernel_rfl).symm.trans hf) |>.symm
      obtain rfl : fn = Tryd.f6 := (Option.some.inj (Tryd.func6.symm.trans hfn)).symm
      have hp : (Tryd.f6.params.toList.all fun t => !Tryd.prog.wantsStandIn t) = true := by kernel_rfl
      exact ⟨by kernel_rfl, fun j t ht => (show Tryd.prog.wantsStandIn t = false by simpa using List.all_eq_true.1 hp t (List.mem_of_getElem? (by simpa using ht)))⟩)
    (by kernel_rfl)
#print axioms proved
end Go.Proofs.YtokiekachlmigaaDoor.lawPlanSays
