/- ropewalklaw.PlanMakes: for every number of parts and all picks the call returns true, and each argument reads behind the call as it read before. No condition. -/
import Derived.Test.YtjpkjcmphjnbhaaRows
import Derived.Test.YtjpkjcmphjnbhaaPlanMakes
import Derived.Test.YtjpkjcmphjnbhaaRow
import Derived.ChangeOld
import Derived.ShutString
import Derived.SizedLaws
import Derived.JoinedCond
namespace Go.Proofs.Ytjpkjcmphjnbhaa.lawPlanMakes
open Go.ChangeShapes Go.WideShapes Go.ChangeAt Go.RowKit
set_option linter.unusedVariables false

theorem own : ownKnob Try.prog.godebug = none := by kernel_rfl
theorem laidOut : laidOutB Try.prog = true := by kernel_rfl

set_option maxRecDepth 100000 in
theorem lifted (os : Os) (started : os.Started) (H : Type) (enc : TypeId × Value → H) :
    ReturnsInHanded {} Try.checked os 10 .any (Rows.planMakesSpec.pre6 enc Try.prog Try.f10 Rows.planMakesRow.domain false) (Rows.planMakesSpec.post enc Try.prog Try.f10 false true false false) := by
  refine returnsInHanded_of_change_sized (C := Try.checked) own started (by kernel_rfl) Try.func10
    (ChangeSpec.witness6 (enc := enc) (C := Try.checked) false ⟨#[], #[.int .i64 0, .slice none 0 0, .slice none 0 0], []⟩ 8 (by kernel_rfl) (by kernel_rfl) (by kernel_rfl) (by kernel_rfl)) ?_
  intro W base args ds gs before hval0 hW hcnd hsz _
  have hval : ∀ (j : Nat) t v, Try.f10.params[j]? = some t → args[j]? = some v → Value.okWide Try.prog W .any base t v := hval0
  have hW' := hW
  obtain ⟨p, q, hA0, hV, rfl, hfz, hnd⟩ := hW
  have hA : DataW.TrodAll enc Try.prog W 0 (fun _ => true) true Try.f10.params.toList args.toList ds p := hA0
  rw [Try.params10] at hA hval
  obtain ⟨v0, vs0, d0, ds0, p0, q0, hargs, rfl, rfl, h0, r0⟩ := trodAll_cons hA
  obtain ⟨v1, vs1, d1, ds1, p1, q1, rfl, rfl, rfl, h1, r1⟩ := trodAll_cons r0
  obtain ⟨v2, vs2, d2, ds2, p2, q2, rfl, rfl, rfl, h2, r2⟩ := trodAll_cons r1
  obtain ⟨rfl, rfl, rfl⟩ := trodAll_nil r2
  obtain rfl : args = #[v0, v1, v2] := by cases args; simp_all
  obtain ⟨rfl, rfl⟩ := trodVars_none hV
  have k0 := h0
  have lt0 : ∀ x ∈ p0, x.block < W.heap.size := by obtain ⟨m, hm⟩ := k0; exact DataW.trod_lt m _ _ _ hm
  have k1 := h1
  have lt1 : ∀ x ∈ p1, x.block < W.heap.size := by obtain ⟨m, hm⟩ := k1; exact DataW.trod_lt m _ _ _ hm
  have k2 := h2
  have lt2 : ∀ x ∈ p2, x.block < W.heap.size := by obtain ⟨m, hm⟩ := k2; exact DataW.trod_lt m _ _ _ hm
  obtain ⟨a0, rfl, rfl, rfl, w0⟩ := open_int Try.underlying3 (hval 0 3 v0 rfl rfl) h0
  obtain ⟨s1, rfl, o1, z1⟩ := open_sliceArg Try.underlying24 opens_ints (hval 1 24 v1 rfl rfl) h1
  obtain ⟨s2, rfl, o2, z2⟩ := open_sliceArg Try.underlying24 opens_ints (hval 2 24 v2 rfl rfl) h2
  clear hA0 hval0
  have walk : Calls Try.prog 10 #[.int .i64 a0, .slice s1.A s1.l.length s1.c, .slice s2.A s2.l.length s2.c] W fun e w' => e = .returned (.bool true) ∧ Below W.heap.size W w' := by
    obtain ⟨r, hr⟩ : ∃ r, makeRes a0 s1.l = r := ⟨_, rfl⟩
    obtain ⟨l, x⟩ := r
    by_cases hx : x = 0
    · subst hx
      have hf := make_form hr
      obtain ⟨m, rfl⟩ : ∃ m : Nat, a0 = (m : Int) + 1 := ⟨(a0 - 1).toNat, by omega⟩
      have hb : s2.l.length * 8 ≤ 140737488351232 := by
        rcases z2 with z | ⟨elems, spare, hd, hl⟩
        · omega
        · subst hd
          have hz := sized_slice hsz (j := 2) (t := 24) rfl rfl Try.underlying24
          have hB : Try.checked.prog.bytesOf 3 = 8 := by kernel_rfl
          have hR : reachBytes = 140737488351232 := by kernel_rfl
          rw [hB, hl, hR] at hz
          have := o2.cap
          omega
      exact planMakes_ok m s1.A s2.A s1.c s2.c s1.l s2.l l W (ints_reads o1) o1.cap o1.max (ints_reads o2) hb hr
    · exact planMakes_err a0 s1.A s2.A s1.c s2.c s1.l s2.l W (ints_reads o1) (Nat.le_trans o1.cap o1.max) (by rw [hr]; exact hx)
  refine walk.mono fun e W' ⟨he, bel⟩ => ?_
  subst he
  exact ⟨_, rfl, _, _, _, [], _, [], hW', trodAll_mk1 (shut_bool Try.underlying4 _), (trodAll_cons_mk (shut_int Try.underlying3 w0) (trodAll_cons_mk (Below.trod laidOut (by kernel_rfl) (of_decide_eq_true (by kernel_rfl)) k1 bel lt1) (trodAll_cons_mk (Below.trod laidOut (by kernel_rfl) (of_decide_eq_true (by kernel_rfl)) k2 bel lt2) trodAll_mk0))), rfl, bel.frame _, fun h => by cases h⟩

/-- The statement. -/
theorem over : Rows.planMakesRow.holds Try.pinned (OpenSpec.ofChange Rows.planMakesSpec) :=
  OpenClaim.holds_of_wide 10 Try.f10 rfl rfl rfl rfl rfl rfl rfl ⟨rfl, rfl, rfl, rfl, rfl⟩ rfl rfl rfl rfl rfl (by kernel_rfl) Try.func10 (by kernel_rfl)
    (of_decide_eq_true (by kernel_rfl)) (by unfold Func.isWrapper; rw [if_neg (of_decide_eq_false (by kernel_rfl))]; exact ⟨rfl, rfl⟩)
    (fun os started H enc _ => lifted os started H enc)
theorem proved : Rows.PlanMakesSaid := over
#print axioms proved
end Go.Proofs.Ytjpkjcmphjnbhaa.lawPlanMakes
