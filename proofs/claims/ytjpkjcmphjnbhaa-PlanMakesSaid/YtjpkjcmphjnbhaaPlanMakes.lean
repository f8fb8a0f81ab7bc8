/- ropewalklaw.PlanMakes: the walk. -/
import Derived.Test.YtjpkjcmphjnbhaaPlanned
import Derived.Test.YtjpkjcmphjnbhaaMakeP
import Derived.Test.YtjpkjcmphjnbhaaSlI
import Derived.Test.YtjpkjcmphjnbhaaMemT
namespace Go.Proofs.Ytjpkjcmphjnbhaa
open Go.RowKit

set_option maxHeartbeats 2000000 in
theorem planMakes_err (parts : Int) (A1 A2 : Option Addr) (c1 c2 : Nat) (picks more : List Int) (w : World) (h1 : Reads w w.heap.size 1 A1 picks.length (intsV picks)) (hm1 : picks.length ≤ 9223372036854775807)
    (he : (makeRes parts picks).2 ≠ 0) :
    Calls Try.prog 10 #[.int .i64 parts, .slice A1 picks.length c1, .slice A2 more.length c2] w fun e w' => e = .returned (.bool true) ∧ Below w.heap.size w w' := by
  have he' : ((makeRes parts picks).2 != 0) = true := by simpa using he
  clear he
  go_enter Try.func10, Try.ntmps10
  go_wp2_with fail
  refine (make_any parts A1 c1 picks w h1 hm1).mono ?_
  rintro e w1 ⟨v1, rfl, _, hb1⟩
  go_wp2_with fail
  refine (planned_any w1).mono ?_
  rintro e w2 ⟨rfl, hb2⟩
  have hb2 := hb1.trans (hb2.mono hb1.size)
  go_wp2_with fail
  refine (planned_any w2).mono ?_
  rintro e w3 ⟨rfl, hb3⟩
  have hb3 := hb2.trans (hb3.mono hb2.size)
  go_wp2
  go_ret
  exact ⟨rfl, hb3⟩

set_option maxHeartbeats 2000000 in
theorem planMakes_ok (m : Nat) (A1 A2 : Option Addr) (c1 c2 : Nat) (picks more : List Int) (l : List Nd) (w : World) (h1 : Reads w w.heap.size 1 A1 picks.length (intsV picks)) (hc1 : picks.length ≤ c1) (hm1 : c1 ≤ 9223372036854775807)
    (h2 : Reads w w.heap.size 1 A2 more.length (intsV more)) (hm2 : more.length * 8 ≤ 140737488351232)
    (he : makeRes ((m : Int) + 1) picks = (l, 0)) :
    Calls Try.prog 10 #[.int .i64 ((m : Int) + 1), .slice A1 picks.length c1, .slice A2 more.length c2] w fun e w' => e = .returned (.bool true) ∧ Below w.heap.size w w' := by
  have HM := make_any ((m : Int) + 1) A1 c1 picks w h1 (by omega)
  rw [he] at HM
  have hf := make_form he
  have hm12 : m ≤ 11 := by omega
  have h23 : picks.length ≤ 23 := by omega
  have hlen := make_len he
  have HL := Lib.hid (show (l.length : Int) = 2 * ((m : Int) + 1) - 1 from hlen)
  have hl23 : l.length ≤ 23 := by omega
  have hl1 : 1 ≤ l.length := by omega
  have hK := Lib.hid (make_plan he)
  have hK1 := Lib.hid (make_more he)
  have hK2 := Lib.hid (make_less he)
  have HS := Lib.hid (fun hp => make_same (more := more) he hp)
  have q1 : ((l.length : Int) != 2 * ((m : Int) + 1) - 1) = false := by simpa using hlen
  clear he hf hlen
  go_enter Try.func10, Try.ntmps10
  go_wp2_with fail
  refine HM.mono ?_
  rintro e w1 ⟨v1, rfl, ⟨A3, c3, rfl, hc3, h3⟩, hb1⟩
  go_wp2_with fail
  refine (planned_any w1).mono ?_
  rintro e w2 ⟨rfl, hb2⟩
  have h3 := (h3.below hb2).more hb2.size
  have hb2 := hb1.trans (hb2.mono hb1.size)
  clear hb1 HM
  go_wp2_with fail
  refine (planCheck_any A3 c3 l _ w2 h3 (by omega)).mono ?_
  rintro e w3 ⟨rfl, hb3⟩
  rw [hK.out]
  have h3 := (h3.below hb3).more hb3.size
  have hb3 := hb2.trans (hb3.mono hb2.size)
  clear hb2
  go_wp2_with fail
  obtain ⟨r1, hr1⟩ : ∃ r1, ckPlan l ((m : Int) + 1 + 1) = r1 := ⟨_, rfl⟩
  have hne1 : (r1 == 0) = false := by rw [← hr1]; simpa using hK1.out
  have HC := planCheck_any A3 c3 l ((m : Int) + 1 + 1) w3 h3 (by omega)
  rw [hr1] at HC
  clear hr1
  refine HC.mono ?_
  rintro e w4 ⟨rfl, hb4⟩
  have h3 := (h3.below hb4).more hb4.size
  have hb4 := hb3.trans (hb4.mono hb3.size)
  clear HC hb3
  go_wp2_with fail
  have hcut : Reads w4 w4.heap.size 3 A3 (l.length - 1) (ndCells (l.take (l.length - 1))) := reads_cut Nd.cells_len h3 (Nat.sub_le _ _)
  have hlc : (l.take (l.length - 1)).length = l.length - 1 := by rw [List.length_take]; omega
  obtain ⟨r2, hr2⟩ : ∃ r2, ckPlan (l.take (l.length - 1)) ((m : Int) + 1) = r2 := ⟨_, rfl⟩
  have hne2 : (r2 == 0) = false := by rw [← hr2]; simpa using hK2.out
  have HC := planCheck_any A3 c3 (l.take (l.length - 1)) ((m : Int) + 1) w4 (by rw [hlc]; exact hcut) (by omega)
  rw [hr2, hlc] at HC
  clear hr2 hlc hcut
  refine HC.mono ?_
  rintro e w5 ⟨rfl, hb5⟩
  have h3 := (h3.below hb5).more hb5.size
  have hb5 := hb4.trans (hb5.mono hb4.size)
  have h1 := h1.below hb5
  have h2 := h2.below hb5
  clear HC hb4
  by_cases hlt : picks.length < m
  · have q2 : decide ((picks.length : Int) < (m : Int)) = true := by simpa using hlt
    have q3 : decide (picks.length < m) = true := by simpa using hlt
    go_wp2
    go_ret
    exact ⟨rfl, hb5⟩
  · have q2 : decide ((picks.length : Int) < (m : Int)) = false := by simpa using hlt
    have q3 : decide (picks.length < m) = false := by simpa using hlt
    go_wp2_with fail
    have hml : m ≤ picks.length := by omega
    have hpt := reads_cut (cells := fun n : Int => [.int .i64 n]) (fun _ => rfl) (w := w5) (B := w.heap.size) (A := A1) (l := picks) (by rw [← intsV_flat]; exact h1) hml
    rw [← intsV_flat] at hpt
    have hlt' : (picks.take m).length = m := by rw [List.length_take]; omega
    have b1 := Blk.new' w5 24 #[.slice A1 m c1, .slice A2 more.length c2] rfl
    have hcat : catInts [⟨A1, picks.take m, c1⟩, ⟨A2, more, c2⟩] = picks.take m ++ more := by simp [catInts]
    have HC := concatInts_any (some ⟨w5.heap.size, 0, none⟩) 2 [⟨A1, picks.take m, c1⟩, ⟨A2, more, c2⟩] (w5.alloc (.cells #[.slice A1 m c1, .slice A2 more.length c2] 24))
      (by simp only [List.map, hlt']; exact b1.reads (size := 1) (n := 2) rfl)
      (fun s hs => by
        simp only [List.mem_cons, List.not_mem_nil, or_false] at hs
        rcases hs with rfl | rfl
        · simp only [hlt']; exact (hpt.more (by have := hb5.size; omega)).alloc (Nat.le_refl _) _ |>.more (by simp)
        · exact (h2.more (by have := hb5.size; omega)).alloc (Nat.le_refl _) _ |>.more (by simp))
      (by rw [hcat, List.length_append, hlt']; omega) (by simp)
    rw [hcat] at HC
    have hcl : (picks.take m ++ more).length = m + more.length := by rw [List.length_append, hlt']
    obtain ⟨cc, hcc⟩ : ∃ cc, picks.take m ++ more = cc := ⟨_, rfl⟩
    have hS : cc.length ≤ 23 → makeRes ((m : Int) + 1) cc = (l, 0) := fun h => by
      have := HS.out (by omega)
      rw [show ((m : Int) + 1 - 1).toNat = m by omega, hcc] at this
      exact this h
    rw [hcc] at HC hcl
    have hcl0 : cc.length ≤ 9223372036854775807 := by omega
    clear hcat hcc hcl hpt hlt' b1 HS
    refine HC.mono ?_
    rintro e w6 ⟨v6, rfl, hown, hb6⟩
    obtain ⟨A5, c5, rfl, hc5, h5⟩ := RowAt.of_own hown
    have hb6 : Below w5.heap.size w5 w6 := ((Below.refl _ _).alloc (Nat.le_refl _) _).trans (hb6.mono (by simp))
    have h3 := (h3.below hb6).more hb6.size
    have hb6 := hb5.trans (hb6.mono hb5.size)
    clear HC hown hb5 h1 h2
    go_wp2_with fail
    have HM := make_any ((m : Int) + 1) A5 c5 cc w6 h5 hcl0
    by_cases h23' : 23 < cc.length
    · rw [makeRes_many (by omega) h23'] at HM
      refine HM.mono ?_
      rintro e w7 ⟨v7, rfl, _, hb7⟩
      have hb7 := hb6.trans (hb7.mono hb6.size)
      clear hS
      go_wp2
      go_ret
      exact ⟨rfl, hb7⟩
    · rw [hS (by omega)] at HM
      clear hS
      refine HM.mono ?_
      rintro e w7 ⟨v7, rfl, ⟨A7, c7, rfl, _, h7⟩, hb7⟩
      have h3 := (h3.below hb7).more hb7.size
      have hb7 := hb6.trans (hb7.mono hb6.size)
      go_wp2_with fail
      refine (equalNodes_any A3 A7 c3 c7 l l w7 h3 h7 (by omega)).mono ?_
      rintro e w8 ⟨rfl, hb8⟩
      have hb8 := hb7.trans (hb8.mono hb7.size)
      go_wp2
      go_ret
      exact ⟨ret_val (by simp), hb8⟩
end Go.Proofs.Ytjpkjcmphjnbhaa
