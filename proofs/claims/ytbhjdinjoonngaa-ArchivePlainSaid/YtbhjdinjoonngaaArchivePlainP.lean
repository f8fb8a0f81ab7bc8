/- ropewalklaw.ArchivePlain: for any two rows of parts and any names the call returns true, and each argument reads behind the call as it read before. No condition. -/
import Derived.Test.YtbhjdinjoonngaaRows
import Derived.Test.YtbhjdinjoonngaaArcPlainW
import Derived.Test.YtbhjdinjoonngaaLkP
import Derived.Test.YtbhjdinjoonngaaOpenS
import Derived.ChangeOld
import Derived.ShutString
import Derived.SizedLaws
import Derived.JoinedCond
set_option linter.all false
namespace Go.Proofs.Ytbhjdinjoonngaa.lawArchivePlain
open Go.ChangeShapes Go.WideShapes Go.ChangeAt Go.RowKit
set_option linter.unusedVariables false

theorem own : ownKnob Try.prog.godebug = none := by kernel_rfl
theorem laidOut : laidOutB Try.prog = true := by kernel_rfl

set_option maxRecDepth 100000 in
theorem lifted (os : Os) (started : os.Started) (H : Type) (enc : TypeId × Value → H) :
    ReturnsInHanded {} Try.checked os 8 .any (Rows.archivePlainSpec.pre6 enc Try.prog Try.f8 Rows.archivePlainRow.domain false) (Rows.archivePlainSpec.post enc Try.prog Try.f8 false true false false) := by
  refine returnsInHanded_of_change (C := Try.checked) own started (by kernel_rfl) Try.func8
    (ChangeSpec.witness6 (enc := enc) (C := Try.checked) false ⟨#[], #[.slice none 0 0, .slice none 0 0, .slice none 0 0], []⟩ 8 (by kernel_rfl) (by kernel_rfl) (by kernel_rfl) (by kernel_rfl)) ?_
  intro W base args ds gs before hval0 hW hcnd _
  have hval : ∀ (j : Nat) t v, Try.f8.params[j]? = some t → args[j]? = some v → Value.okWide Try.prog W .any base t v := hval0
  have hW' := hW
  obtain ⟨p, q, hA0, hV, rfl, hfz, hnd⟩ := hW
  have hA : DataW.TrodAll enc Try.prog W 0 (fun _ => true) true Try.f8.params.toList args.toList ds p := hA0
  rw [Try.params8] at hA hval
  obtain ⟨v0, vs0, d0, ds0, p0, q0, hargs, rfl, rfl, h0, r0⟩ := trodAll_cons hA
  obtain ⟨v1, vs1, d1, ds1, p1, q1, rfl, rfl, rfl, h1, r1⟩ := trodAll_cons r0
  obtain ⟨v2, vs2, d2, ds2, p2, q2, rfl, rfl, rfl, h2, r2⟩ := trodAll_cons r1
  obtain ⟨rfl, rfl, rfl⟩ := trodAll_nil r2
  obtain rfl : args = #[v0, v1, v2] := by cases args; simp_all
  obtain ⟨rfl, rfl⟩ := trodVars_none hV
  have k0 := h0
  have lt0 : ∀ x ∈ p0, x.block < W.heap.size := by obtain ⟨m, hm⟩ := k0; exact DataW.trod_lt m _ _ _ hm
  have k1 := h1
  have lt1 : ∀ x ∈ p1, x.block < W.heap.size := by obtain ⟨m, hm⟩ := k1; exact DataW.trod_lt m _ _ _ hm
  have k2 := h2
  have lt2 : ∀ x ∈ p2, x.block < W.heap.size := by obtain ⟨m, hm⟩ := k2; exact DataW.trod_lt m _ _ _ hm
  obtain ⟨s0, rfl, o0, z0⟩ := open_sliceArg Try.underlying22 opens_parts (hval 0 22 v0 rfl rfl) h0
  obtain ⟨s1, rfl, o1, z1⟩ := open_sliceArg Try.underlying22 opens_parts (hval 1 22 v1 rfl rfl) h1
  obtain ⟨s2, rfl, o2, z2⟩ := open_sliceArg Try.underlying67 opens_strs (hval 2 67 v2 rfl rfl) h2
  clear hA0 hval0
  have walk : Calls Try.prog 8 #[.slice s0.A s0.l.length s0.c, .slice s1.A s1.l.length s1.c, .slice s2.A s2.l.length s2.c] W fun e w' => e = .returned (.bool true) ∧ Below W.heap.size W w' := by
    exact archivePlain_any s0.A s1.A s2.A s0.c s1.c s2.c s0.l s1.l s2.l W ⟨o0.reads, o0.each⟩ (Nat.le_trans o0.cap o0.max) o0.cap ⟨o1.reads, o1.each⟩ (Nat.le_trans o1.cap o1.max) (strs_reads o2) (Nat.le_trans o2.cap o2.max)
  refine walk.mono fun e W' ⟨he, bel⟩ => ?_
  subst he
  exact ⟨_, rfl, _, _, _, [], _, [], hW', trodAll_mk1 (shut_bool Try.underlying4 _), (trodAll_cons_mk (Below.trod laidOut (by kernel_rfl) (of_decide_eq_true (by kernel_rfl)) k0 bel lt0) (trodAll_cons_mk (Below.trod laidOut (by kernel_rfl) (of_decide_eq_true (by kernel_rfl)) k1 bel lt1) (trodAll_cons_mk (Below.trod laidOut (by kernel_rfl) (of_decide_eq_true (by kernel_rfl)) k2 bel lt2) trodAll_mk0))), rfl, bel.frame _, fun h => by cases h⟩

/-- The statement. -/
theorem over : Rows.archivePlainRow.holds Try.pinned (OpenSpec.ofChange Rows.archivePlainSpec) :=
  OpenClaim.holds_of_wide 8 Try.f8 rfl rfl rfl rfl rfl rfl rfl ⟨rfl, rfl, rfl, rfl, rfl⟩ rfl rfl rfl rfl rfl (by kernel_rfl) Try.func8 (by kernel_rfl)
    (of_decide_eq_true (by kernel_rfl)) (by unfold Func.isWrapper; rw [if_neg (of_decide_eq_false (by kernel_rfl))]; exact ⟨rfl, rfl⟩)
    (fun os started H enc _ => lifted os started H enc)
theorem proved : Rows.ArchivePlainSaid := over
#print axioms proved
end Go.Proofs.Ytbhjdinjoonngaa.lawArchivePlain
