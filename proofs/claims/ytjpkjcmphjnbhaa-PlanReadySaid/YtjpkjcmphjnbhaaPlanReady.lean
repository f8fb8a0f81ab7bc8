/- ropewalklaw.PlanReady: the walk. -/
import Derived.Test.YtjpkjcmphjnbhaaPlanned
import Derived.Test.YtjpkjcmphjnbhaaReadyD
import Derived.Test.YtjpkjcmphjnbhaaAt
namespace Go.Proofs.Ytjpkjcmphjnbhaa
open Go.RowKit

theorem Try.infoBool : (Try.prog.info? 4).map (fun i => (i.zero, i.size, i.bytes)) = some (some (.bool false), 1, 1) := by kernel_rfl

theorem make_bools (n : Nat) (hn : n ≤ 1000000) (w : World) :
    (Instr.makeSlice 59 (.int .i64 (n : Int)) (.int .i64 (n : Int))).run Try.prog w = .ok (.slice (some ⟨w.heap.size, 0, none⟩) n n) (w.alloc (.cells (boolsV (List.replicate n false)).toArray 4)) := by
  obtain ⟨i0, hi, hz0, hz1, hz2⟩ := info_parts Try.infoBool
  rw [run_make_one 59 4 i0 (.bool false) Try.underlying59 hi hz0 hz1 rfl 1 hz2 n hn (by omega) w]
  congr 4
  unfold boolsV
  apply List.ext_getElem?
  intro j
  rcases Nat.lt_or_ge j n with hj | hj
  · simp [hj]
  · simp [hj]

set_option maxHeartbeats 2000000 in
set_option maxRecDepth 100000 in
theorem planReady_err (parts : Int) (A1 A2 : Option Addr) (c1 c2 : Nat) (picks order : List Int) (w : World) (h1 : Reads w w.heap.size 1 A1 picks.length (intsV picks)) (hm1 : picks.length ≤ 9223372036854775807)
    (he : (makeRes parts picks).2 ≠ 0) :
    Calls Try.prog 9 #[.int .i64 parts, .slice A1 picks.length c1, .slice A2 order.length c2] w fun e w' => e = .returned (.bool true) ∧ Below w.heap.size w w' := by
  have he' : ((makeRes parts picks).2 != 0) = true := by simpa using he
  clear he
  go_enter Try.func9, Try.ntmps9
  go_wp2_with fail
  refine (make_any parts A1 c1 picks w h1 hm1).mono ?_
  rintro e w1 ⟨v1, rfl, _, hb1⟩
  go_wp2_with fail
  refine (planned_any w1).mono ?_
  rintro e w2 ⟨rfl, hb2⟩
  have hb2 := hb1.trans (hb2.mono hb1.size)
  go_wp2_with fail
  refine (planned_any w2).mono ?_
  rintro e w3 ⟨rfl, hb3⟩
  have hb3 := hb2.trans (hb3.mono hb2.size)
  go_wp2
  go_ret
  exact ⟨rfl, hb3⟩

set_option maxHeartbeats 2000000 in
set_option maxRecDepth 100000 in
theorem planReady_ok (parts : Int) (A1 A2 : Option Addr) (c1 c2 : Nat) (picks order : List Int) (l : List Nd) (w : World) (h1 : Reads w w.heap.size 1 A1 picks.length (intsV picks)) (hm1 : picks.length ≤ 9223372036854775807)
    (h2 : Reads w w.heap.size 1 A2 order.length (intsV order)) (hm2 : order.length ≤ 9223372036854775807) (ho : ∀ x ∈ order, -9223372036854775808 ≤ x ∧ x ≤ 9223372036854775807)
    (he : makeRes parts picks = (l, 0)) (hck : ckPlan l parts = 0) :
    Calls Try.prog 9 #[.int .i64 parts, .slice A1 picks.length c1, .slice A2 order.length c2] w fun e w' => e = .returned (.bool true) ∧ Below w.heap.size w w' := by
  have HM := make_any parts A1 c1 picks w h1 hm1
  rw [he] at HM
  clear he
  have hz := ckPlan_zero hck
  have h23 : l.length ≤ 23 := hz.2.2.1
  have HF := Lib.hid hz.2.2.2.2.1
  have HK := Lib.hid hck
  have hmk := make_bools l.length (by omega)
  clear hz hck
  go_enter Try.func9, Try.ntmps9
  go_wp2_with fail
  refine HM.mono ?_
  rintro e w1 ⟨v1, rfl, ⟨A3, c3, rfl, hc3, h3⟩, hb1⟩
  go_wp2_with fail
  refine (planned_any w1).mono ?_
  rintro e w2 ⟨rfl, hb2⟩
  have h3 := (h3.below hb2).more hb2.size
  have hb2 := hb1.trans (hb2.mono hb1.size)
  clear hb1 HM
  go_wp2_with fail
  go_loopw [34] (fun i wr => ∃ (k : Nat) (done : List Bool), k ≤ l.length ∧ i = .int .i64 k ∧ Hid (done.length = l.length) ∧ Hid (done.count true = k) ∧ Blk wr w2.heap.size 4 (boolsV done).toArray ∧ Below w2.heap.size w2 wr ∧ w2.heap.size < wr.heap.size) (fun i _ => l.length - (intOf i).toNat)
  case atStart => exact ⟨0, List.replicate l.length false, Nat.zero_le _, rfl, Lib.hid (by simp), Lib.hid (by rw [List.count_replicate]; rfl), Blk.new' w2 _ _ rfl, (Below.refl _ _).alloc (Nat.le_refl _) _, by simp⟩
  case round =>
    obtain ⟨k, done, hk, rfl, hl, hcnt, hblk, hb, hsz⟩ := hrel
    by_cases hlt : k < l.length
    · have hrd := hblk.reads (size := 1) (n := done.length) (by simp [boolsV])
      obtain ⟨i0, hi0⟩ : ∃ i : Nat, done[i]? = some false := by
        apply Classical.byContradiction
        intro hn
        have : done.count true = done.length := List.count_eq_length.2 fun b hb => by
          obtain ⟨i, hi, rfl⟩ := List.getElem_of_mem hb
          rcases hd : done[i] with _ | _
          · exact absurd ⟨i, by rw [List.getElem?_eq_getElem hi, hd]⟩ hn
          · rfl
        have h1 := hcnt.out
        have h2 := hl.out
        omega
      obtain ⟨j0, hj0, hjr⟩ := ready_some HF.out hl.out i0 hi0
      have hmem : (j0 : Int) ∈ readyUpto l done l.length := readyUpto_mem.2 ⟨j0, rfl, hj0, hjr⟩
      obtain ⟨r, hr⟩ : ∃ r, readyUpto l done l.length = r := ⟨_, rfl⟩
      have hrl := readyUpto_len l done l.length
      have hsrt := readyUpto_sorted l done l.length
      rw [hr] at hmem hrl hsrt
      have hr1 : 1 ≤ r.length := List.length_pos_of_mem hmem
      have hR := ready_any A3 (some ⟨w2.heap.size, 0, none⟩) c3 done.length l parts done wr ((h3.below hb).more (by omega)) (by simpa using hrd) (by omega) (by have := hl.out; omega)
      rw [readyRes_ok HK.out hl.out, hr] at hR
      rw [hl.out] at hR
      have HR := Lib.hid hr
      have hs : ∀ i a b, r[i]? = some a → r[i + 1]? = some b → a ≤ b := fun i a b ha hb' => by
        obtain ⟨i1, rfl⟩ := List.getElem?_eq_some_iff.1 ha
        obtain ⟨i2, rfl⟩ := List.getElem?_eq_some_iff.1 hb'
        exact Int.le_of_lt (List.pairwise_iff_getElem.1 hsrt i (i + 1) i1 i2 (by omega))
      clear hmem hsrt hr hrd hjr hj0 hi0
      have hr0 : ((r.length : Int) == 0) = false := beq_eq_false_iff_ne.2 (by omega)
      go_wp2_with fail
      refine hR.mono ?_
      rintro e w3 ⟨v3, rfl, ⟨A4, c4, rfl, hc4, h4⟩, hb4⟩
      have hblk4 := hblk.all hb4
      have hb4 := hb.trans (hb4.mono (by omega))
      clear hR hb hblk
      go_wp2_with fail
      refine (isSorted_any A4 c4 r w3 h4 (by omega) hs).mono ?_
      rintro e w4 ⟨rfl, hb5⟩
      have hblk5 := hblk4.all hb5
      have h5 := (h4.below hb5).more hb5.size
      have hb6 := hb4.trans (hb5.mono (by have := hb4.size; omega))
      clear hb5 hb4 hblk4 h4 hs
      have hx5 := (h3.below hb6).more hb6.size
      have ho5 := (h2.below (hb2.trans (hb6.mono hb2.size)))
      have hsz5 : w2.heap.size < w4.heap.size := hblk5.lt
      have HJ : Hid (∀ j u, j < r.length → (intsV r)[j]? = some u → ∃ n : Nat, u = .int .i64 n ∧ n < l.length ∧ readyAt l done n = true) := fun j u hj hu => by
        have e : (intsV r)[j]? = some (.int .i64 r[j]) := by simp [intsV, intV, hj]
        rw [e] at hu
        cases hu
        obtain ⟨i, h1, h2, h3⟩ := readyUpto_mem.1 (show r[j] ∈ readyUpto l done l.length by rw [HR.out]; exact List.getElem_mem _)
        exact ⟨i, by rw [h1], h2, h3⟩
      rcases Nat.eq_zero_or_pos order.length with hz | hz
      · obtain ⟨b4, o4, u, rfl, hb4', hu, hc4⟩ := h5.at_ hr1
        obtain ⟨n, rfl, hnl, hrd⟩ := HJ.out 0 u hr1 hu
        have hz0 : decide (0 < order.length) = false := by simp [hz]
        have hjr : (0 : Int) < r.length := by omega
        rw [Nat.add_zero] at hc4
        clear hz hu HJ
        (obtain ⟨hdn, x, hx, hcs⟩ := ready_cases HF.out hl.out hrd; have d0 := (hblk5.cell n).trans (boolsV_at hdn); have df := hblk5.frozen n; have HD := Lib.hid hdn; obtain ⟨b3, o3, rfl, hb3', x0, x1, x2⟩ := nd_cells hx5 hx; have HCN := Lib.hid (count_done hdn hcnt.out); clear hdn hx hrd; rcases hcs with h0 | ⟨h0, a, d, ha, hd, han, hdn', ea, ed⟩; (focus ((have h0' : decide (x.leaf < 0) = false := by simpa using h0); clear h5; (go_wp2; go_roundw; (case rel => exact ⟨k + 1, done.set n true, by omega, by go_num, Lib.hid (by rw [List.length_set]; exact hl.out), HCN, by rw [← boolsV_set]; exact hblk5.set_ _ _, hb6.setCell (Nat.le_refl _) _, by simpa using hsz5⟩); (case measure => simp [intOf]; omega)))); ((have h0' : decide (x.leaf < 0) = true := by simp; omega); rw [ha] at x1; rw [hd] at x2; have da := (hblk5.cell a).trans (boolsV_at ea); have dd := (hblk5.cell d).trans (boolsV_at ed); clear h5 ha hd ea ed h0; (go_wp2; go_roundw; (case rel => exact ⟨k + 1, done.set n true, by omega, by go_num, Lib.hid (by rw [List.length_set]; exact hl.out), HCN, by rw [← boolsV_set]; exact hblk5.set_ _ _, hb6.setCell (Nat.le_refl _) _, by simpa using hsz5⟩); (case measure => simp [intOf]; omega))))
      · obtain ⟨bo, oo, u, hA2, hbo, hu, hco⟩ := ho5.at_ (k := k % order.length) (Nat.mod_lt _ hz)
        rw [show (intsV order)[k % order.length]? = some (.int .i64 (order[k % order.length]'(Nat.mod_lt _ hz))) by simp [intsV, intV, Nat.mod_lt _ hz]] at hu
        cases hu
        obtain ⟨y, hy⟩ : ∃ y, order[k % order.length]'(Nat.mod_lt _ hz) = y := ⟨_, rfl⟩
        obtain ⟨hy0, hy1⟩ := ho _ (List.getElem_mem (Nat.mod_lt k hz))
        rw [hy] at hco hy0 hy1
        have hm0 := Int.emod_nonneg y (show (r.length : Int) ≠ 0 by omega)
        have hm1 := Int.emod_lt_of_pos y (show (0 : Int) < r.length by omega)
        obtain ⟨j, hj⟩ : ∃ j : Nat, y % (r.length : Int) = j := ⟨(y % (r.length : Int)).toNat, by omega⟩
        rw [hj] at hm1
        have hjr : j < r.length := by omega
        obtain ⟨b4, o4, u, rfl, hb4', hu, hc4⟩ := h5.at_ hjr
        obtain ⟨n, rfl, hnl, hrd⟩ := HJ.out j u hjr hu
        have hz0 : decide (0 < order.length) = true := by simp; omega
        have hz1 : ((order.length : Int) == 0) = false := beq_eq_false_iff_ne.2 (by omega)
        have HAT := at_any y r.length w4 (by omega) (by omega) hy0 hy1
        have HJ2 := Lib.hid hj
        obtain ⟨i1, hi1⟩ : ∃ i1, k % order.length = i1 := ⟨_, rfl⟩
        have hi1l : i1 < order.length := by rw [← hi1]; exact Nat.mod_lt _ hz
        have hm2 : (k : Int).tmod (order.length : Int) = (i1 : Int) := by rw [← Int.ofNat_tmod, hi1]
        rw [hi1] at hco
        clear hy hu HJ hj hm0 hi1 HAT
        subst hA2
        go_upto_region 13 with (fail)
        go_wp2_with fail
        refine (at_any y r.length _ (by omega) (by omega) hy0 hy1).mono ?_
        rintro e w5 ⟨rfl, hw5⟩
        subst w5
        rw [HJ2.out]
        (obtain ⟨hdn, x, hx, hcs⟩ := ready_cases HF.out hl.out hrd; have d0 := (hblk5.cell n).trans (boolsV_at hdn); have df := hblk5.frozen n; have HD := Lib.hid hdn; obtain ⟨b3, o3, rfl, hb3', x0, x1, x2⟩ := nd_cells hx5 hx; have HCN := Lib.hid (count_done hdn hcnt.out); clear hdn hx hrd; rcases hcs with h0 | ⟨h0, a, d, ha, hd, han, hdn', ea, ed⟩; (focus ((have h0' : decide (x.leaf < 0) = false := by simpa using h0); clear h5; (go_wp2; go_roundw; (case rel => exact ⟨k + 1, done.set n true, by omega, by go_num, Lib.hid (by rw [List.length_set]; exact hl.out), HCN, by rw [← boolsV_set]; exact hblk5.set_ _ _, hb6.setCell (Nat.le_refl _) _, by simpa using hsz5⟩); (case measure => simp [intOf]; omega)))); ((have h0' : decide (x.leaf < 0) = true := by simp; omega); rw [ha] at x1; rw [hd] at x2; have da := (hblk5.cell a).trans (boolsV_at ea); have dd := (hblk5.cell d).trans (boolsV_at ed); clear h5 ha hd ea ed h0; (go_wp2; go_roundw; (case rel => exact ⟨k + 1, done.set n true, by omega, by go_num, Lib.hid (by rw [List.length_set]; exact hl.out), HCN, by rw [← boolsV_set]; exact hblk5.set_ _ _, hb6.setCell (Nat.le_refl _) _, by simpa using hsz5⟩); (case measure => simp [intOf]; omega))))
    · obtain rfl : k = l.length := by omega
      have hrd := hblk.reads (size := 1) (n := done.length) (by simp [boolsV])
      have hall : ∀ i, done[i]? ≠ some false := fun i hi => by
        have h1 := hcnt.out
        have h2 := List.count_eq_length.1 (h1.trans hl.out.symm) 
        have := h2 _ (List.mem_of_getElem? hi)
        cases this
      have hR := ready_any A3 (some ⟨w2.heap.size, 0, none⟩) c3 done.length l parts done wr ((h3.below hb).more (by omega)) (by simpa using hrd) (by omega) (by have := hl.out; omega)
      have hr0 : readyUpto l done l.length = [] := by
        rcases hh : readyUpto l done l.length with _ | ⟨a, r⟩
        · rfl
        · obtain ⟨i, _, hi, h3⟩ := readyUpto_mem.1 (show a ∈ readyUpto l done l.length by rw [hh]; simp)
          unfold readyAt at h3
          split at h3
          · rename_i e2
            exact absurd e2 (hall i)
          · cases h3
      rw [readyRes_ok HK.out hl.out, hr0] at hR
      rw [hl.out] at hR
      go_wp2_with fail
      refine hR.mono ?_
      rintro e w3 ⟨v3, rfl, ⟨A4, c4, rfl, hc4, h4⟩, hb4⟩
      have hb4 := hb2.trans ((hb.trans (hb4.mono (by omega))).mono hb2.size)
      go_wp2
      go_ret
      exact ⟨rfl, hb4⟩
end Go.Proofs.Ytjpkjcmphjnbhaa
