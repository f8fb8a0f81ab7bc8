/- ropewalklaw.FillSays: for all bytes and every six numbers the call returns true, and each argument reads behind the call as it read before. No condition. -/
import Derived.Test.YtjpkjcmphjnbhaaRows
import Derived.Test.YtjpkjcmphjnbhaaFillSaysC
import Derived.Test.YtjpkjcmphjnbhaaLoadOpen
import Derived.ChangeOld
import Derived.ShutString
namespace Go.Proofs.Ytjpkjcmphjnbhaa.lawFillSays
open Go.ChangeShapes Go.WideShapes Go.ChangeAt Go.RowKit
set_option linter.unusedVariables false

theorem own : ownKnob Try.prog.godebug = none := by kernel_rfl
theorem laidOut : laidOutB Try.prog = true := by kernel_rfl

theorem over_of (hl : ∀ (os : Os) (started : os.Started) (H : Type) (enc : TypeId × Value → H), ReturnsInHanded {} Try.checked os 6 .any (Rows.fillSaysSpec.pre6 enc Try.prog Try.f6 Rows.fillSaysRow.domain false) (Rows.fillSaysSpec.post enc Try.prog Try.f6 false true false false)) :
    Rows.fillSaysRow.holds Try.pinned (OpenSpec.ofChange Rows.fillSaysSpec) :=
  OpenClaim.holds_of_wide 6 Try.f6 rfl rfl rfl rfl rfl rfl rfl ⟨rfl, rfl, rfl, rfl, rfl⟩ rfl rfl rfl rfl rfl (by kernel_rfl) Try.func6 (by kernel_rfl)
    (of_decide_eq_true (by kernel_rfl)) (by unfold Func.isWrapper; rw [if_neg (of_decide_eq_false (by kernel_rfl))]; exact ⟨rfl, rfl⟩)
    (fun os started H enc _ => hl os started H enc)

set_option maxRecDepth 100000 in
theorem lifted (os : Os) (started : os.Started) (H : Type) (enc : TypeId × Value → H) :
    ReturnsInHanded {} Try.checked os 6 .any (Rows.fillSaysSpec.pre6 enc Try.prog Try.f6 Rows.fillSaysRow.domain false) (Rows.fillSaysSpec.post enc Try.prog Try.f6 false true false false) := by
  refine returnsInHanded_of_change (C := Try.checked) own started (by kernel_rfl) Try.func6
    (ChangeSpec.witness6 (enc := enc) (C := Try.checked) false ⟨#[], #[.int .i64 0, .int .i64 0, .int .i64 0, .int .i64 0, .slice none 0 0, .int .i64 0, .int .i64 0], []⟩ 8 (by kernel_rfl) (by kernel_rfl) (by kernel_rfl) (by kernel_rfl)) ?_
  intro W base args ds gs before hval0 hW hcnd _
  have hval : ∀ (j : Nat) t v, Try.f6.params[j]? = some t → args[j]? = some v → Value.okWide Try.prog W .any base t v := hval0
  have hW' := hW
  obtain ⟨p, q, hA0, hV, rfl, hfz, hnd⟩ := hW
  have hA : DataW.TrodAll enc Try.prog W 0 (fun _ => true) true Try.f6.params.toList args.toList ds p := hA0
  rw [Try.params6] at hA hval
  obtain ⟨v0, vs0, d0, ds0, p0, q0, hargs, rfl, rfl, h0, r0⟩ := trodAll_cons hA
  obtain ⟨v1, vs1, d1, ds1, p1, q1, rfl, rfl, rfl, h1, r1⟩ := trodAll_cons r0
  obtain ⟨v2, vs2, d2, ds2, p2, q2, rfl, rfl, rfl, h2, r2⟩ := trodAll_cons r1
  obtain ⟨v3, vs3, d3, ds3, p3, q3, rfl, rfl, rfl, h3, r3⟩ := trodAll_cons r2
  obtain ⟨v4, vs4, d4, ds4, p4, q4, rfl, rfl, rfl, h4, r4⟩ := trodAll_cons r3
  obtain ⟨v5, vs5, d5, ds5, p5, q5, rfl, rfl, rfl, h5, r5⟩ := trodAll_cons r4
  obtain ⟨v6, vs6, d6, ds6, p6, q6, rfl, rfl, rfl, h6, r6⟩ := trodAll_cons r5
  obtain ⟨rfl, rfl, rfl⟩ := trodAll_nil r6
  obtain rfl : args = #[v0, v1, v2, v3, v4, v5, v6] := by cases args; simp_all
  obtain ⟨rfl, rfl⟩ := trodVars_none hV
  have k4 := h4
  have lt4 : ∀ x ∈ p4, x.block < W.heap.size := by obtain ⟨m, hm⟩ := k4; exact DataW.trod_lt m _ _ _ hm
  obtain ⟨a0, rfl, rfl, rfl, w0⟩ := open_int Try.underlying3 (hval 0 3 v0 rfl rfl) h0
  obtain ⟨a1, rfl, rfl, rfl, w1⟩ := open_int Try.underlying3 (hval 1 3 v1 rfl rfl) h1
  obtain ⟨a2, rfl, rfl, rfl, w2⟩ := open_int Try.underlying3 (hval 2 3 v2 rfl rfl) h2
  obtain ⟨a3, rfl, rfl, rfl, w3⟩ := open_int Try.underlying3 (hval 3 3 v3 rfl rfl) h3
  obtain ⟨A, b, c, rfl, hS, hlen⟩ := open_bytesArg (hval 4 32 v4 rfl rfl) h4
  obtain ⟨a5, rfl, rfl, rfl, w5⟩ := open_int Try.underlying3 (hval 5 3 v5 rfl rfl) h5
  obtain ⟨a6, rfl, rfl, rfl, w6⟩ := open_int Try.underlying3 (hval 6 3 v6 rfl rfl) h6
  clear hA0 hval0
  have walk : Calls Try.prog 6 #[.int .i64 a0, .int .i64 a1, .int .i64 a2, .int .i64 a3, .slice A b.length c, .int .i64 a5, .int .i64 a6] W fun e w' => e = .returned (.bool true) ∧ Below W.heap.size W w' := by
    obtain ⟨f0, f1⟩ := bounds_i64 w1
    obtain ⟨g0, g1⟩ := bounds_i64 w5
    rcases Int.lt_or_le (mostOf a0) (leastOf a0) with e0 | e0
    · exact fillSays_kind a0 a1 a2 a3 a5 a6 A c b W hS hlen f0 f1 g0 g1 e0
    rcases Int.lt_or_le 65536 (b.length : Int) with e1 | e1
    · exact fillSays_many a0 a1 a2 a3 a5 a6 A c b W hS hlen f0 f1 g0 g1 e0 e1
    by_cases e2 : a5 < 0 ∨ (b.length : Int) - wideOf a0 < a5
    · exact fillSays_who a0 a1 a2 a3 a5 a6 A c b W hS hlen f0 f1 g0 g1 e0 e1 e2
    rcases wide_or e0 with hw | hw
    · exact fillSays_1 a0 a1 a2 a3 a5 a6 A c b W hS hlen f0 f1 g0 g1 e0 e1 (by omega) (by omega) hw
    · exact fillSays_2 a0 a1 a2 a3 a5 a6 A c b W hS hlen f0 f1 g0 g1 e0 e1 (by omega) (by omega) hw
  refine walk.mono fun e W' ⟨he, bel⟩ => ?_
  subst he
  exact ⟨_, rfl, _, _, _, [], _, [], hW', trodAll_mk1 (shut_bool Try.underlying4 _), (trodAll_cons_mk (shut_int Try.underlying3 w0) (trodAll_cons_mk (shut_int Try.underlying3 w1) (trodAll_cons_mk (shut_int Try.underlying3 w2) (trodAll_cons_mk (shut_int Try.underlying3 w3) (trodAll_cons_mk (Below.trod laidOut (by kernel_rfl) (of_decide_eq_true (by kernel_rfl)) k4 bel lt4) (trodAll_cons_mk (shut_int Try.underlying3 w5) (trodAll_cons_mk (shut_int Try.underlying3 w6) trodAll_mk0))))))), rfl, bel.frame _, fun h => by cases h⟩

/-- The statement. -/
theorem proved : Rows.FillSaysSaid := over_of lifted
#print axioms proved
end Go.Proofs.Ytjpkjcmphjnbhaa.lawFillSays
