/- ropewalklaw.ArchiveChooses: for any items and any names the call returns true, and each argument reads behind the call as it read before. The two tables of unicode/utf8 are tied. -/
import Derived.Test.YtmlomnhjbmocfaaDoorRows
import Derived.Test.YtmlomnhjbmocfaaDoorArcChooseW
import Derived.Test.YtmlomnhjbmocfaaDoorOpenI
import Derived.Test.YtmlomnhjbmocfaaDoorB1
import Derived.ChangeOld
import Derived.ShutString
import Derived.SizedLaws
import Derived.JoinedCond
import Derived.Test.YtmlomnhjbmocfaaDoorLaid
import Derived.Test.YtmlomnhjbmocfaaDoorTie
import Derived.Test.YtmlomnhjbmocfaaDoorCards
import Derived.SevenTiedAt
set_option linter.all false
namespace Go.Proofs.YtmlomnhjbmocfaaDoor.lawArchiveChooses
open Go.ChangeShapes Go.WideShapes Go.ChangeAt Go.RowKit
set_option linter.unusedVariables false

theorem own : ownKnob Tryd.prog.godebug = none := by kernel_rfl
theorem laidOut : laidOutB Tryd.prog = true := by kernel_rfl

set_option maxRecDepth 100000 in
theorem lifted (os : Os) (started : os.Started) (H : Type) (enc : TypeId × Value → H) :
    ReturnsInHanded {} Tryd.checked os 4 .any (fun w args => (Rows.archiveChoosesSpec.pre enc Tryd.prog Tryd.f4 Rows.archiveChoosesRow.domain false w args ∧ laidMetH Tryd.prog laidL w) ∧ sizedMet enc Tryd.prog Tryd.f4 (OpenSpec.ofChange Rows.archiveChoosesSpec) false w args) (Rows.archiveChoosesSpec.post enc Tryd.prog Tryd.f4 false true false false) := by
  refine returnsInHanded_of_change_and (C := Tryd.checked) (X := fun w _ => laidMetH Tryd.prog laidL w) (fun _ _ _ hh h => h.of_heap hh) own started (by kernel_rfl) Tryd.func4
    (ChangeSpec.witness_at (enc := enc) (C := Tryd.checked) (os := os) (X := fun w _ => laidMetH Tryd.prog laidL w) false (laidWorld os) #[.slice none 0 0, .slice none 0 0] 8 rfl (by kernel_rfl) (by kernel_rfl) (by kernel_rfl) (by kernel_rfl) (by kernel_rfl) (laid_met os _)) ?_
  intro W base args ds gs before hval0 hW hcnd hsz hL _
  have hval : ∀ (j : Nat) t v, Tryd.f4.params[j]? = some t → args[j]? = some v → Value.okWide Tryd.prog W .any base t v := hval0
  have hW' := hW
  obtain ⟨p, q, hA0, hV, rfl, hfz, hnd⟩ := hW
  have hA : DataW.TrodAll enc Tryd.prog W 0 (fun _ => true) true Tryd.f4.params.toList args.toList ds p := hA0
  rw [Tryd.params4] at hA hval
  obtain ⟨v0, vs0, d0, ds0, p0, q0, hargs, rfl, rfl, h0, r0⟩ := trodAll_cons hA
  obtain ⟨v1, vs1, d1, ds1, p1, q1, rfl, rfl, rfl, h1, r1⟩ := trodAll_cons r0
  obtain ⟨rfl, rfl, rfl⟩ := trodAll_nil r1
  obtain rfl : args = #[v0, v1] := by cases args; simp_all
  obtain ⟨rfl, rfl⟩ := trodVars_none hV
  have k0 := h0
  have lt0 : ∀ x ∈ p0, x.block < W.heap.size := by obtain ⟨m, hm⟩ := k0; exact DataW.trod_lt m _ _ _ hm
  have k1 := h1
  have lt1 : ∀ x ∈ p1, x.block < W.heap.size := by obtain ⟨m, hm⟩ := k1; exact DataW.trod_lt m _ _ _ hm
  obtain ⟨s0, rfl, o0, z0⟩ := open_sliceArg Tryd.underlying40 opens_items (hval 0 40 v0 rfl rfl) h0
  obtain ⟨s1, rfl, o1, z1⟩ := open_sliceArg Tryd.underlying27 opens_strs (hval 1 27 v1 rfl rfl) h1
  clear hA0 hval0
  have walk : Calls Tryd.prog 4 #[.slice s0.A s0.l.length s0.c, .slice s1.A s1.l.length s1.c] W fun e w' => e = .returned (.bool true) ∧ Below W.heap.size W w' := by
    exact archiveChooses_any s0.A s1.A s0.c s1.c s0.l s1.l W ⟨o0.reads, o0.each⟩ (Nat.le_trans o0.cap o0.max) (strs_reads o1) (Nat.le_trans o1.cap o1.max)
  refine walk.mono fun e W' ⟨he, bel⟩ => ?_
  subst he
  exact ⟨_, rfl, _, _, _, [], _, [], hW', trodAll_mk1 (shut_bool Tryd.underlying4 _), (trodAll_cons_mk (Below.trod laidOut (by kernel_rfl) (of_decide_eq_true (by kernel_rfl)) k0 bel lt0) (trodAll_cons_mk (Below.trod laidOut (by kernel_rfl) (of_decide_eq_true (by kernel_rfl)) k1 bel lt1) trodAll_mk0)), rfl, bel.frame _, fun h => by cases h⟩

/-- The statement. -/
theorem over : Rows.archiveChoosesRow.holds Tryd.pinned (OpenSpec.ofChange Rows.archiveChoosesSpec) :=
  OpenClaim.holds_of_wide 4 Tryd.f4 rfl rfl rfl rfl rfl rfl rfl ⟨rfl, rfl, rfl, rfl, rfl⟩ rfl rfl rfl rfl rfl (by kernel_rfl) Tryd.func4 (by kernel_rfl)
    (of_decide_eq_true (by kernel_rfl)) (by unfold Func.isWrapper; rw [if_neg (of_decide_eq_false (by kernel_rfl))]; exact ⟨rfl, rfl⟩)
    (fun os started H enc _ => lifted os started H enc)
theorem proved : Rows.ArchiveChoosesCardSaid := by
  unfold Rows.ArchiveChoosesCardSaid Rows.archiveChoosesCard
  exact Claim7.holds_tied_plain_at .later [] [.data, .pinned] true _ true
    over (fun _ h => by cases h) (by kernel_rfl) (fun _ h => by cases h) archiveChooses_row_tie rfl ⟨rfl, rfl⟩ (by kernel_rfl) rfl
    (fun f fn hf hfn => by
      obtain rfl : f = 4 := Option.some.inj ((show Tryd.prog.funcNamed "ropewalk/ropewalklaw.ArchiveChooses" = some 4 by kernel_rfl).symm.trans hf) |>.symm
      obtain rfl : fn = Tryd.f4 := (Option.some.inj (Tryd.func4.symm.trans hfn)).symm
      have hp : (Tryd.f4.params.toList.all fun t => !Tryd.prog.wantsStandIn t) = true := by kernel_rfl
      exact ⟨by kernel_rfl, fun j t ht => (show Tryd.prog.wantsStandIn t = false by simpa using List.all_eq_true.1 hp t (List.mem_of_getElem? (by simpa using ht)))⟩)
    (by kernel_rfl)
#print axioms proved
end Go.Proofs.YtmlomnhjbmocfaaDoor.lawArchiveChooses
