/- ropewalklaw.NamesSets: the call returns true. -/
import Derived.Test.YtgpimgpdlfjfhaaSetsW
import Derived.Test.YtgpimgpdlfjfhaaConcatS
import Derived.Test.YtgpimgpdlfjfhaaFoundW
import Derived.Test.YtgpimgpdlfjfhaaAllW
namespace Go.Proofs.Ytgpimgpdlfjfhaa
open Go.RowKit

theorem lacking_rising (p : Prt) : Rising ((lackingP p).map keyOf) := by
  unfold lackingP
  have h := setS_rising (p.frs.flatMap wantedF)
  exact List.Pairwise.sublist (List.Sublist.map _ (List.filter_sublist ..)) h
theorem lacking_not {p : Prt} : ∀ s ∈ lackingP p, s ∉ definedP p := fun s hs hd => by
  have := (List.mem_filter.1 hs).2
  unfold notIn inB at this
  rw [decide_eq_true hd] at this
  cases this

set_option maxHeartbeats 20000000 in
set_option maxRecDepth 100000 in
theorem namesSets_any (a b : PtM) (w : World) (ha : a.At w w.heap.size) (hb : b.At w w.heap.size) :
    Calls Try.prog 11 #[.agg #[.slice a.fa a.frs.length a.fc, .slice a.da a.dfs.length a.dc], .agg #[.slice b.fa b.frs.length b.fc, .slice b.da b.dfs.length b.dc]] w
      fun e w' => e = .returned (.bool true) ∧ Below w.heap.size w w' := by
  go_enter Try.func11, Try.ntmps11
  go_upto_region 1 with (fail)
  have hB := ((Below.refl w.heap.size w).alloc (Nat.le_refl _) (.cells #[.slice (a).fa (a).frs.length (a).fc, .slice (a).da (a).dfs.length (a).dc] 44)).alloc (by simp) (.cells #[.slice (b).fa (b).frs.length (b).fc, .slice (b).da (b).dfs.length (b).dc] 44)
  have k3 := (Blk.new w 44 #[.slice a.fa a.frs.length a.fc, .slice a.da a.dfs.length a.dc]).alloc (.cells #[.slice (b).fa (b).frs.length (b).fc, .slice (b).da (b).dfs.length (b).dc] 44)
  have k4 := Blk.new' (w.alloc (.cells #[.slice (a).fa (a).frs.length (a).fc, .slice (a).da (a).dfs.length (a).dc] 44)) 44 #[.slice b.fa b.frs.length b.fc, .slice b.da b.dfs.length b.dc] (g := w.heap.size + 1) (by simp)
  have a3 := ha.all hB
  have a4 := hb.all hB
  obtain ⟨W, hW⟩ : ∃ W', W' = (w.alloc (.cells #[.slice (a).fa (a).frs.length (a).fc, .slice (a).da (a).dfs.length (a).dc] 44)).alloc (.cells #[.slice (b).fa (b).frs.length (b).fc, .slice (b).da (b).dfs.length (b).dc] 44) := ⟨_, rfl⟩
  obtain ⟨g4, hg4⟩ : ∃ g, g = w.heap.size + 1 := ⟨_, rfl⟩
  rw [← hW] at k3 k4 a3 a4 hB ⊢
  rw [← hg4] at k4 ⊢
  obtain ⟨g3, hg3⟩ : ∃ g, g = w.heap.size := ⟨_, rfl⟩
  rw [show Blk W w.heap.size = Blk W g3 by rw [hg3]] at k3
  rw [← hg3]
  clear hW ha hb hg3 hg4
  (have q0 := (k3).cell 0; have q1 := (k3).cell 1; have q2 := (k4).cell 0; have q3 := (k4).cell 1)
  go_wp2_with fail
  refine (join_any a b W a3 a4).mono ?_
  rintro e w2 ⟨p11, rfl, o11, e11, hs1⟩
  obtain ⟨E3, hE3⟩ : ∃ E, (joinP a.er b.er).2 = E := ⟨_, rfl⟩
  rw [hE3]
  have HE3 := Lib.hid hE3
  have E11 := Lib.hid e11
  clear q0 q1 q2 q3 hE3 e11
  go_upto_region 2 with (fail)
  (have hs := hs1.alloc hs1.size (.cells #[.slice (p11).fa (p11).frs.length (p11).fc, .slice (p11).da (p11).dfs.length (p11).dc] 44); have kN := Blk.new w2 44 #[.slice (p11).fa (p11).frs.length (p11).fc, .slice (p11).da (p11).dfs.length (p11).dc]; have aN := (o11.alloc (.cells #[.slice (p11).fa (p11).frs.length (p11).fc, .slice (p11).da (p11).dfs.length (p11).dc] 44)).at_; obtain ⟨g11, hg⟩ : ∃ g, g = w2.heap.size := ⟨_, rfl⟩; obtain ⟨W, hW⟩ : ∃ W', W' = w2.alloc (.cells #[.slice (p11).fa (p11).frs.length (p11).fc, .slice (p11).da (p11).dfs.length (p11).dc] 44) := ⟨_, rfl⟩; rw [← hg] at kN ⊢; rw [← hW] at hs kN aN ⊢; clear hW hg hs1; ((try replace k3 := k3.all hs); (try replace k4 := k4.all hs); (try replace k9 := k9.all hs); (try replace k11 := k11.all hs); (try replace k13 := k13.all hs); (try replace k14 := k14.all hs); (try replace a3 := a3.all hs); (try replace a4 := a4.all hs); (try replace a9 := a9.all hs); (try replace a11 := a11.all hs); replace hB := hB.trans (hs.mono hB.size)); have k11 := kN; have a11 := aN; clear kN aN hs)
  have q0 := k3.cell 0
  have q1 := k3.cell 1
  go_wp2_with fail
  refine (groupsOut_any a W a3).mono ?_
  rintro e w1 ⟨v, rfl, hv0, hv1, hs⟩
  clear q0 q1
  have hv : ∃ (A : Option Addr) (c : Nat) (l : List ByteArray), v = .slice A l.length c ∧ Reads w1 w1.heap.size 1 A l.length (strsV l) ∧ l.length ≤ 9223372036854775807 ∧ (ckPart a.er = 0 → l = groupsOf a.er.frs) := by
    by_cases hc : ckPart a.er = 0
    · have h1 := hv1 hc
      obtain ⟨A, c, rfl, h2, h3⟩ := own_form h1
      exact ⟨A, c, _, rfl, Reads.of_own h1, by omega, fun _ => rfl⟩
    · exact ⟨none, 0, [], hv0 hc, Reads.none_, by simp, fun h => absurd h hc⟩
  obtain ⟨Ag, cg, L, rfl, hL, hLm, hLg⟩ := hv
  obtain ⟨E1, hE1⟩ : ∃ E, ckPart a.er = E := ⟨_, rfl⟩
  rw [hE1] at hLg ⊢
  have HE1 := Lib.hid hE1
  clear hv0 hv1 hE1
  ((try replace k3 := k3.all hs); (try replace k4 := k4.all hs); (try replace k9 := k9.all hs); (try replace k11 := k11.all hs); (try replace k13 := k13.all hs); (try replace k14 := k14.all hs); (try replace a3 := a3.all hs); (try replace a4 := a4.all hs); (try replace a9 := a9.all hs); (try replace a11 := a11.all hs); replace hB := hB.trans (hs.mono hB.size))
  clear hs
  (have q0 := (k4).cell 0; have q1 := (k4).cell 1; have q2 := (k4).cell 0; have q3 := (k4).cell 1)
  go_wp2_with fail
  refine (dropOut_any b Ag cg L w1 a4 hL hLm).mono ?_
  rintro e w2 ⟨p9, rfl, o9, e9, hs1⟩
  obtain ⟨E2, hE2⟩ : ∃ E, (dropRes b.er L).2 = E := ⟨_, rfl⟩
  rw [hE2]
  have HE2 := Lib.hid hE2
  have E9 := Lib.hid e9
  clear q0 q1 q2 q3 hL hLm hE2 e9
  go_upto_region 4 with (fail)
  (have hs := hs1.alloc hs1.size (.cells #[.slice (p9).fa (p9).frs.length (p9).fc, .slice (p9).da (p9).dfs.length (p9).dc] 44); have kN := Blk.new w2 44 #[.slice (p9).fa (p9).frs.length (p9).fc, .slice (p9).da (p9).dfs.length (p9).dc]; have aN := (o9.alloc (.cells #[.slice (p9).fa (p9).frs.length (p9).fc, .slice (p9).da (p9).dfs.length (p9).dc] 44)).at_; obtain ⟨g9, hg⟩ : ∃ g, g = w2.heap.size := ⟨_, rfl⟩; obtain ⟨W, hW⟩ : ∃ W', W' = w2.alloc (.cells #[.slice (p9).fa (p9).frs.length (p9).fc, .slice (p9).da (p9).dfs.length (p9).dc] 44) := ⟨_, rfl⟩; rw [← hg] at kN ⊢; rw [← hW] at hs kN aN ⊢; clear hW hg hs1; ((try replace k3 := k3.all hs); (try replace k4 := k4.all hs); (try replace k9 := k9.all hs); (try replace k11 := k11.all hs); (try replace k13 := k13.all hs); (try replace k14 := k14.all hs); (try replace a3 := a3.all hs); (try replace a4 := a4.all hs); (try replace a9 := a9.all hs); (try replace a11 := a11.all hs); replace hB := hB.trans (hs.mono hB.size)); have k9 := kN; have a9 := aN; clear kN aN hs)
  go_wp2_with fail
  refine (found_any W).mono ?_
  rintro e w2 ⟨rfl, hs⟩
  ((try replace k3 := k3.all hs); (try replace k4 := k4.all hs); (try replace k9 := k9.all hs); (try replace k11 := k11.all hs); (try replace k13 := k13.all hs); (try replace k14 := k14.all hs); (try replace a3 := a3.all hs); (try replace a4 := a4.all hs); (try replace a9 := a9.all hs); (try replace a11 := a11.all hs); replace hB := hB.trans (hs.mono hB.size))
  clear hs
  obtain ⟨W, hW⟩ : ∃ W', W' = w2 := ⟨_, rfl⟩
  rw [← hW] at k3 k4 k9 k11 a3 a4 a9 a11 hB ⊢
  clear hW
  by_cases h3 : E3 = 0
  · obtain ⟨hoa, hob, hfit, hj⟩ := joinP_zero (a := a.er) (b := b.er) (by rw [HE3.out]; exact h3)
    have h1 : E1 = 0 := by rw [← HE1.out]; exact (ok_iff _).2 hoa
    have h2 : E2 = 0 := by rw [← HE2.out, dropRes_ok ((ok_iff _).2 hob)]
    have hLL := hLg h1
    subst h1
    subst h2
    subst h3
    subst hLL
    have e9 : p9.er = dropP b.er (groupsOf a.er.frs) := by rw [E9.out, dropRes_ok ((ok_iff _).2 hob)]
    have e11 : p11.er = joinU a.er b.er := by rw [E11.out, hj]
    have ca := (ok_iff _).2 hoa
    have cc : ckPart p9.er = 0 := (ok_iff _).2 (by rw [e9]; exact ok_drop hob _)
    have cp : ckPart p11.er = 0 := (ok_iff _).2 (by rw [e11]; exact ok_join hoa hob hfit)
    have HWJ : Hid (wantedP p11.er = setS (wantedP a.er ++ wantedP p9.er)) := by show _ = _; rw [e11, e9]; exact wanted_joined _ _
    have HDJ : Hid (definedP p11.er = setS (definedP a.er ++ definedP p9.er)) := by show _ = _; rw [e11, e9]; exact defined_joined _ _
    have CA := Lib.hid ca
    have CC := Lib.hid cc
    have CP := Lib.hid cp
    clear hoa hob hfit hj e9 e11 ca cc cp HE1 HE2 HE3 E9 E11 hLg o9 o11 k4 a4
    go_upto_region 6 with (fail)
    have hlw := wanted_len CA.out
    have hlw2 := wanted_len CC.out
    have hlw3 := wanted_len CP.out
    have hld := defined_len CA.out
    have hld2 := defined_len CC.out
    have hld3 := defined_len CP.out
    have hs := (Below.refl W.heap.size W).alloc (Nat.le_refl _) (.cells #[.func (.func 38) #[] #[], .func (.func 39) #[] #[]] 88)
    have kF := Blk.new W 88 #[.func (.func 38) #[] #[], .func (.func 39) #[] #[]]
    ((try replace k3 := k3.all hs); (try replace k4 := k4.all hs); (try replace k9 := k9.all hs); (try replace k11 := k11.all hs); (try replace k13 := k13.all hs); (try replace k14 := k14.all hs); (try replace a3 := a3.all hs); (try replace a4 := a4.all hs); (try replace a9 := a9.all hs); (try replace a11 := a11.all hs); replace hB := hB.trans (hs.mono hB.size))
    go_wp2_with fail
    obtain ⟨W1, hW1⟩ : ∃ W', W' = W.alloc (.cells #[.func (.func 38) #[] #[], .func (.func 39) #[] #[]] 88) := ⟨_, rfl⟩
    obtain ⟨gF, hgF⟩ : ∃ g, g = W.heap.size := ⟨_, rfl⟩
    rw [← hW1] at k3 k9 k11 a3 a9 a11 hB kF hs
    rw [← hgF] at kF
    first | rw [← hgF, ← hW1] | skip
    clear hW1 hgF hs
    go_loopw [56] (fun i wr => ∃ k : Nat, k ≤ 2 ∧ i = .int .i64 k ∧ Below W1.heap.size W1 wr) (fun i _ => 2 - (intOf i).toNat)
    case atStart => exact ⟨0, by omega, rfl, Below.refl _ _⟩
    case round =>
      obtain ⟨k, hk, rfl, hb⟩ := hrel
      by_cases hk2 : k = 2
      · subst hk2
        have k11' := k11.all hb
        (have q0 := (k11').cell 0; have q1 := (k11').cell 1; have q2 := (k11').cell 0; have q3 := (k11').cell 1)
        go_wp2_with fail
        refine (lacking_any p11 wr (a11.all hb)).mono ?_
        rintro e w2 ⟨v1, rfl, _, hx, hs⟩
        have r1 := hx CP.out
        rw [CP.out]
        have k12 := k11'.all hs
        have hb2 := hb.trans (hs.mono hb.size)
        obtain ⟨A1, c1, rfl, hc1, hc2⟩ := own_form r1
        clear q0 q1 q2 q3 hx hs k11'
        (have q0 := (k12).cell 0; have q1 := (k12).cell 1; have q2 := (k12).cell 0; have q3 := (k12).cell 1)
        go_wp2_with fail
        refine (defined_any p11 w2 (a11.all hb2)).mono ?_
        rintro e w3 ⟨v2, rfl, _, hx, hs⟩
        have r2 := hx CP.out
        rw [CP.out]
        have r1' := own_all r1 hs
        have hb3 := hb2.trans (hs.mono hb2.size)
        obtain ⟨A2, c2, rfl, hc3, hc4⟩ := own_form r2
        clear q0 q1 q2 q3 hx hs k12 r1
        have hll : (lackingP p11.er).length ≤ 480 := Nat.le_trans (List.length_filter_le ..) hlw3
        have HLR := Lib.hid (lacking_rising p11.er)
        have HLN := Lib.hid (lacking_not (p := p11.er))
        obtain ⟨LL, hLL⟩ : ∃ L, lackingP p11.er = L := ⟨_, rfl⟩
        obtain ⟨DD, hDD⟩ : ∃ L, definedP p11.er = L := ⟨_, rfl⟩
        rw [hLL] at r1' hll HLR HLN
        rw [hDD] at r2 hld3 HLN
        first | rw [hLL, hDD] | skip
        clear hLL hDD
        go_upto_region 19 with (fail)
        have r3 := r1'.alloc (.cells #[.slice A2 DD.length c2] 67)
        have r4 := r2.alloc (.cells #[.slice A2 DD.length c2] 67)
        have kD := Blk.new w3 67 #[.slice A2 DD.length c2]
        have hb4 := hb3.alloc hb3.size (.cells #[.slice A2 DD.length c2] 67)
        obtain ⟨gD, hgD⟩ : ∃ g, g = w3.heap.size := ⟨_, rfl⟩
        obtain ⟨W4, hW4⟩ : ∃ W', W' = w3.alloc (.cells #[.slice A2 DD.length c2] 67) := ⟨_, rfl⟩
        rw [← hgD] at kD ⊢
        rw [← hW4] at r3 r4 kD hb4 ⊢
        clear hW4 hgD r1' r2 hb3
        have hmf : ∀ (fn : Fn) (first cap : Array Value) (w : World), (Instr.makeFunc fn first cap).run Try.prog w = .ok (.func fn first cap) w := fun _ _ _ _ => rfl
        go_wp2_with fail
        refine (isSorted_any A1 c1 LL W4 (Reads.of_own r3) HLR.out (by omega)).mono ?_
        rintro e w5 ⟨rfl, hs⟩
        have r5 := own_all r3 hs
        have r6 := own_all r4 hs
        have kD5 := kD.all hs
        have hb5 := hb4.trans (hs.mono hb4.size)
        go_wp2_with fail
        refine (csets_any A1 c1 LL A2 c2 DD gD w5 (Reads.of_own r5) (by omega) kD5 (Reads.of_own r6) (by omega) HLN.out).mono ?_
        rintro e w6 ⟨rfl, rfl⟩
        go_wp2
        go_ret
        exact ⟨ret_val rfl, hB.trans (hb5.mono hB.size)⟩
      · by_cases hk0 : k = 0
        · subst hk0
          have f0 := (kF.all hb).cell 0
          (have x3 := k3.all hb; (have q0 := (x3).cell 0; have q1 := (x3).cell 1; have q2 := (x3).cell 0; have q3 := (x3).cell 1); go_wp2_with fail; refine (wanted_any a wr (a3.all hb)).mono ?_; rintro e w2 ⟨v1, rfl, _, hx, hs⟩; have r1 := hx CA.out; rw [CA.out]; have hb2 := hb.trans (hs.mono hb.size); obtain ⟨A1, c1, rfl, hc1, hc2⟩ := own_form r1; clear q0 q1 q2 q3 hx hs x3 f0; have x9 := k9.all hb2; (have q0 := (x9).cell 0; have q1 := (x9).cell 1; have q2 := (x9).cell 0; have q3 := (x9).cell 1); go_wp2_with fail; refine (wanted_any p9 w2 (a9.all hb2)).mono ?_; rintro e w3 ⟨v2, rfl, _, hx, hs⟩; have r2 := hx CC.out; rw [CC.out]; replace r1 := own_all r1 hs; have hb3 := hb2.trans (hs.mono hb2.size); obtain ⟨A2, c2, rfl, hc3, hc4⟩ := own_form r2; clear q0 q1 q2 q3 hx hs x9; have x11 := k11.all hb3; (have q0 := (x11).cell 0; have q1 := (x11).cell 1; have q2 := (x11).cell 0; have q3 := (x11).cell 1); go_wp2_with fail; refine (wanted_any p11 w3 (a11.all hb3)).mono ?_; rintro e w4 ⟨v3, rfl, _, hx, hs⟩; have r3 := hx CP.out; rw [CP.out]; have hlt3 := fun g hg => (r3.lt g hg).2; replace r1 := own_all r1 hs; replace r2 := own_all r2 hs; have hb4 := hb3.trans (hs.mono hb3.size); obtain ⟨A3, c3, rfl, hc5, hc6⟩ := own_form r3; clear q0 q1 q2 q3 hx hs x11; have HE : Hid (setS (wantedP a.er ++ wantedP p9.er) = wantedP p11.er) := HWJ.out.symm; obtain ⟨XA, hXA⟩ : ∃ L, wantedP a.er = L := ⟨_, rfl⟩; obtain ⟨XC, hXC⟩ : ∃ L, wantedP p9.er = L := ⟨_, rfl⟩; obtain ⟨XP, hXP⟩ : ∃ L, wantedP p11.er = L := ⟨_, rfl⟩; rw [hXA] at r1 hlw; rw [hXC] at r2 hlw2; rw [hXP] at r3 hlt3 hlw3; rw [hXA, hXC, hXP] at HE; (first | rw [hXA, hXC, hXP] | skip); clear hXA hXC hXP; go_upto_region 12 with (fail); have hc := concatStrs_any (some ⟨w4.heap.size, 0, none⟩) 2 [⟨A1, XA, c1⟩, ⟨A2, XC, c2⟩] (w4.alloc (.cells #[.slice A1 XA.length c1, .slice A2 XC.length c2] 67)) ((Blk.new w4 67 #[.slice A1 XA.length c1, .slice A2 XC.length c2]).reads rfl) (fun s hs => by simp only [List.mem_cons, List.mem_nil_iff, or_false] at hs; rcases hs with rfl | rfl; (exact (Reads.of_own (r1.alloc _))); (exact (Reads.of_own (r2.alloc _)))) (by simp [catStrs]; omega) (by simp); rw [show catStrs [⟨A1, XA, c1⟩, ⟨A2, XC, c2⟩] = XA ++ XC from by simp [catStrs]] at hc; replace hc := Lib.hid hc; go_wp2_with fail; refine hc.out.mono ?_; rintro e w5 ⟨v5, rfl, r5, hs5⟩; have hs6 := ((Below.refl w4.heap.size w4).alloc (Nat.le_refl _) (.cells #[.slice A1 XA.length c1, .slice A2 XC.length c2] 67)).trans (hs5.mono (by simp)); replace r5 := r5.mono (base' := w4.heap.size) (by simp); replace r3 := own_all r3 hs6; have hb5 := hb4.trans (hs6.mono hb4.size); have hll : (XA ++ XC).length ≤ 1000 := (by rw [List.length_append]; omega); have hne6 : (Value.slice A3 XP.length c3).ownBlock = none ∨ (Value.slice A3 XP.length c3).ownBlock ≠ v5.ownBlock := (by rcases hb9 : (Value.slice A3 XP.length c3).ownBlock with _ | g; (exact .inl rfl); (exact .inr fun e9 => absurd (hlt3 g hb9) (Nat.not_lt.2 (r5.lt g e9.symm).1))); clear hlt3; go_wp2_with fail; refine (sort_own r5 (by omega)).mono ?_; rintro e w6 ⟨rfl, r6, hg6⟩; have r3b := own_kept r3 hg6 hne6; have hb6 := hb5.grown hg6 hb5.size (fun g hg => Nat.le_trans hb4.size (r5.lt g hg).1); go_wp2_with fail; refine (compact_own r6 (by omega)).mono ?_; rintro e w7 ⟨v7, rfl, r7, hg7⟩; have r3c := own_kept r3b hg7 hne6; have hb7 := hb6.grown hg7 hb6.size (fun g hg => Nat.le_trans hb4.size (r6.lt g hg).1); replace r7 : w7.ownsRow w4.heap.size 9 1 v7 XP.length (strsV XP) := (by rw [← HE.out]; exact r7); obtain ⟨A7, c7, rfl, hc7, hc8⟩ := own_form r7; clear r5 r6 r3 r3b hg6 hg7 hne6 hb5 hb6; go_wp2_with fail; refine (equalStrs_any A7 A3 c7 c3 XP XP w7 (Reads.of_own r7) (Reads.of_own r3c) (by omega)).mono ?_; rintro e w8 ⟨he, hs8⟩; rw [show (XP == XP) = true from by simp] at he; subst he; have hb8 := hb7.trans (hs8.mono hb7.size); go_wp2; go_roundw; (case rel => exact ⟨1, by omega, by go_num, hb8⟩); (case measure => simp [intOf]))
        · obtain rfl : k = 1 := by omega
          have f0 := (kF.all hb).cell 1
          (have x3 := k3.all hb; (have q0 := (x3).cell 0; have q1 := (x3).cell 1; have q2 := (x3).cell 0; have q3 := (x3).cell 1); go_wp2_with fail; refine (defined_any a wr (a3.all hb)).mono ?_; rintro e w2 ⟨v1, rfl, _, hx, hs⟩; have r1 := hx CA.out; rw [CA.out]; have hb2 := hb.trans (hs.mono hb.size); obtain ⟨A1, c1, rfl, hc1, hc2⟩ := own_form r1; clear q0 q1 q2 q3 hx hs x3 f0; have x9 := k9.all hb2; (have q0 := (x9).cell 0; have q1 := (x9).cell 1; have q2 := (x9).cell 0; have q3 := (x9).cell 1); go_wp2_with fail; refine (defined_any p9 w2 (a9.all hb2)).mono ?_; rintro e w3 ⟨v2, rfl, _, hx, hs⟩; have r2 := hx CC.out; rw [CC.out]; replace r1 := own_all r1 hs; have hb3 := hb2.trans (hs.mono hb2.size); obtain ⟨A2, c2, rfl, hc3, hc4⟩ := own_form r2; clear q0 q1 q2 q3 hx hs x9; have x11 := k11.all hb3; (have q0 := (x11).cell 0; have q1 := (x11).cell 1; have q2 := (x11).cell 0; have q3 := (x11).cell 1); go_wp2_with fail; refine (defined_any p11 w3 (a11.all hb3)).mono ?_; rintro e w4 ⟨v3, rfl, _, hx, hs⟩; have r3 := hx CP.out; rw [CP.out]; have hlt3 := fun g hg => (r3.lt g hg).2; replace r1 := own_all r1 hs; replace r2 := own_all r2 hs; have hb4 := hb3.trans (hs.mono hb3.size); obtain ⟨A3, c3, rfl, hc5, hc6⟩ := own_form r3; clear q0 q1 q2 q3 hx hs x11; have HE : Hid (setS (definedP a.er ++ definedP p9.er) = definedP p11.er) := HDJ.out.symm; obtain ⟨XA, hXA⟩ : ∃ L, definedP a.er = L := ⟨_, rfl⟩; obtain ⟨XC, hXC⟩ : ∃ L, definedP p9.er = L := ⟨_, rfl⟩; obtain ⟨XP, hXP⟩ : ∃ L, definedP p11.er = L := ⟨_, rfl⟩; rw [hXA] at r1 hld; rw [hXC] at r2 hld2; rw [hXP] at r3 hlt3 hld3; rw [hXA, hXC, hXP] at HE; (first | rw [hXA, hXC, hXP] | skip); clear hXA hXC hXP; go_upto_region 12 with (fail); have hc := concatStrs_any (some ⟨w4.heap.size, 0, none⟩) 2 [⟨A1, XA, c1⟩, ⟨A2, XC, c2⟩] (w4.alloc (.cells #[.slice A1 XA.length c1, .slice A2 XC.length c2] 67)) ((Blk.new w4 67 #[.slice A1 XA.length c1, .slice A2 XC.length c2]).reads rfl) (fun s hs => by simp only [List.mem_cons, List.mem_nil_iff, or_false] at hs; rcases hs with rfl | rfl; (exact (Reads.of_own (r1.alloc _))); (exact (Reads.of_own (r2.alloc _)))) (by simp [catStrs]; omega) (by simp); rw [show catStrs [⟨A1, XA, c1⟩, ⟨A2, XC, c2⟩] = XA ++ XC from by simp [catStrs]] at hc; replace hc := Lib.hid hc; go_wp2_with fail; refine hc.out.mono ?_; rintro e w5 ⟨v5, rfl, r5, hs5⟩; have hs6 := ((Below.refl w4.heap.size w4).alloc (Nat.le_refl _) (.cells #[.slice A1 XA.length c1, .slice A2 XC.length c2] 67)).trans (hs5.mono (by simp)); replace r5 := r5.mono (base' := w4.heap.size) (by simp); replace r3 := own_all r3 hs6; have hb5 := hb4.trans (hs6.mono hb4.size); have hll : (XA ++ XC).length ≤ 1000 := (by rw [List.length_append]; omega); have hne6 : (Value.slice A3 XP.length c3).ownBlock = none ∨ (Value.slice A3 XP.length c3).ownBlock ≠ v5.ownBlock := (by rcases hb9 : (Value.slice A3 XP.length c3).ownBlock with _ | g; (exact .inl rfl); (exact .inr fun e9 => absurd (hlt3 g hb9) (Nat.not_lt.2 (r5.lt g e9.symm).1))); clear hlt3; go_wp2_with fail; refine (sort_own r5 (by omega)).mono ?_; rintro e w6 ⟨rfl, r6, hg6⟩; have r3b := own_kept r3 hg6 hne6; have hb6 := hb5.grown hg6 hb5.size (fun g hg => Nat.le_trans hb4.size (r5.lt g hg).1); go_wp2_with fail; refine (compact_own r6 (by omega)).mono ?_; rintro e w7 ⟨v7, rfl, r7, hg7⟩; have r3c := own_kept r3b hg7 hne6; have hb7 := hb6.grown hg7 hb6.size (fun g hg => Nat.le_trans hb4.size (r6.lt g hg).1); replace r7 : w7.ownsRow w4.heap.size 9 1 v7 XP.length (strsV XP) := (by rw [← HE.out]; exact r7); obtain ⟨A7, c7, rfl, hc7, hc8⟩ := own_form r7; clear r5 r6 r3 r3b hg6 hg7 hne6 hb5 hb6; go_wp2_with fail; refine (equalStrs_any A7 A3 c7 c3 XP XP w7 (Reads.of_own r7) (Reads.of_own r3c) (by omega)).mono ?_; rintro e w8 ⟨he, hs8⟩; rw [show (XP == XP) = true from by simp] at he; subst he; have hb8 := hb7.trans (hs8.mono hb7.size); go_wp2; go_roundw; (case rel => exact ⟨2, by omega, by go_num, hb8⟩); (case measure => simp [intOf]))
  · have n3 : (E3 != 0) = true := by simpa using h3
    clear h3
    go_wp2_with fail
    refine (found_any W).mono ?_
    rintro e w3 ⟨rfl, hs⟩
    go_wp2
    go_ret
    exact ⟨ret_val rfl, hB.trans (hs.mono hB.size)⟩
end Go.Proofs.Ytgpimgpdlfjfhaa
